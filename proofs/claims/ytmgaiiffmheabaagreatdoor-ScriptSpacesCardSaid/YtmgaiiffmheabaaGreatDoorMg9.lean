/- x -/
import Derived.Test.YtmgaiiffmheabaaGreatDoorMg8
namespace Go.Proofs.YtmgaiiffmheabaaGreatDoor
open Option renaming some->ϊ,none->ϋ
open Bool renaming true->ό,false->ύ
open Go.Value renaming bool->μ,slice->δ,pointer->π,agg->θ
open Go.IntKind renaming i64->ι,u8->υ,u16->φ,u32->ω,i32->χ,u64->ψ
open _root_.Go.Proofs.Tryz
set_option linter.all false
set_option maxHeartbeats 8000000
open Go.RowKit
set_option maxRecDepth 100000
variable {w w' w0 W:World} {F:List Nat} {s s':RmS} {v vp vr v':Value} {k:RmK} {b L l:List Int} {T:Nat->Tg} {q:List (List Int)} {cs:List Value}
def ZH {base e:Nat} (h:w.ownsRow base e 1 v L.length (L.map (Value.int .i64))):
  ∃oa cap,v= δ oa L.length cap/\L.length<=maxLen/\ ∀w':World,(∀g,base<=g->g<w.heap.size->w'.heap[g]? =w.heap[g]?)-> ∀i (hi:i<L.length),∃g,oa=ϊ ⟨g,0,ϋ⟩/\w'.cell? ⟨g,i,ϋ⟩=ϊ (ι L[i]):=by
 rcases id h.2 with ⟨rfl,d⟩ | ⟨g,cap,cur,rfl,G,H,J,N,_⟩
 ·exact⟨ϋ,0,by rw[d],τ,λw' _ i hi=>by omega⟩
 ·refine⟨_,cap,rfl,τ,λw' e i hi=>⟨g,rfl, ?_⟩⟩;have I:=h.cellAt i τ;rw[World.cell?_of_block (e g G (lt_of_block H)),I,B6,ϖ hi];rfl
def RmX.orgsF {J:Value} (h:RmX T w0 w k vp J s F):
  Calls prog 71 #[γ k.R] w λe w'=> ∃G cap Fn,e= .returned (δ G s.origins.length cap)/\s.origins.length<=9/\RmX T w0 w' k vp J s (Fn++F)/\ql w w'/\
   ∀w'':World,(∀b∈Fn,w''.heap[b]? =w'.heap[b]?)-> ∀i (hi:i<s.origins.length),∃b,G=ϊ ⟨b,0,ϋ⟩/\w''.cell? ⟨b,i* 2,ϋ⟩=ϊ (ι s.origins[i].1)/\w''.cell? ⟨b,i* 2+1,ϋ⟩=ϊ (ι s.origins[i].2):=by
 refine h.orgsRow.mono ?_;rintro e w' ⟨v,rfl,r,m⟩;have U:s.origins.length<=9:=by
  unfold RmS.origins;exact ϙ (C7 _ _) ζ
 obtain⟨G,cap,rfl,_,Y⟩:=KT r;refine⟨G,cap,match G with | some a=>if w.heap.size<=a.block/\a.block<w'.heap.size then [a.block] else [] | none=>[],rfl,U,h.adds m (λb d=> ?_),m,λw'' I i hi=> ?_⟩
 ·cases G with
  | none=>simp at d
  | some a=>
   simp only at d;split at d
   ·rename_i H;simp at d;subst d;exact H
   ·simp at d
 ·obtain⟨b,rfl,O,H,N,c1⟩:=Y i hi;simp only[O,H,and_self,C1] at I;have e:=I b η;exact⟨b,rfl,by rw[World.cell?_of_block e];exact N,by rw[World.cell?_of_block e];exact c1⟩
def Kq (L:List Int): ∀s:RmS,(L.foldl RmS.drain1 s).strs=s.strs:=by
 induction L with
 | nil=>intro s;rfl
 | cons x L ih=>intro s;rw[A6,ih];rfl
def Kp (s:RmS) (o x:Og):(qh (s.drainO o).strs x).isSome=(qh s.strs x).isSome:=by
 unfold RmS.drainO;cases ho:qh s.strs o with
 | none=>rfl
 | some t=>
  simp only[Kq,qF];by_cases e:x=o
  ·rw[ϓ e,e,ho];rfl
  ·rw[Ϗ e]
def Y1 (L:List Og) (x:Og): ∀s:RmS,(qh (L.foldl RmS.drainO s).strs x).isSome=(qh s.strs x).isSome:=by
 induction L with
 | nil=>intro s;rfl
 | cons o L ih=>intro s;rw[A6,ih,Kp]
def QW {j:Nat} (h:j<6):subIds.take (j+1)=subIds.take j++[(j:Int)]:=by
 have:j=0∨j=1∨j=2∨j=3∨j=4∨j=5:=by omega
 rcases this with rfl | rfl | rfl | rfl | rfl | rfl<;>rfl
def UX (L:List Int): ∀s:RmS,(L.foldl RmS.drain1 s).ret=s.ret:=by
 induction L with
 | nil=>intro s;rfl
 | cons x L ih=>intro s;rw[A6,ih];rfl
def UW (s:RmS) (o:Og):(s.drainO o).ret=s.ret:=by
 unfold RmS.drainO;cases qh s.strs o with
 | none=>rfl
 | some t=>simp only[UX]
def PV (s:RmS) (w:Og):(s.drain w).ret=s.ret:=by
 unfold RmS.drain;split
 ·rfl
 ·split
  ·have: ∀(L:List Og) (s:RmS),(L.foldl RmS.drainO s).ret=s.ret:=by
    intro L
    induction L with
    | nil=>intro s;rfl
    | cons o L ih=>intro s;rw[A6,ih,UW]
   exact this _ _
  ·unfold RmS.drainL;cases qh s.lanes w.2<;>rfl
def Xt (h:qI w0 w k s F) (sub id f:Int):
  Calls prog 178 #[θ #[γ k.B],ι sub,ι id,ι f] w λe w'=>e= .returned (.tuple #[])/\qI w0 w' k {s with book:=jp s.book sub id f} F/\qw F w w'/\jt (λb=>b=k.b) w w':=by
 obtain⟨T,vp,H,x⟩:=h;refine(gI x.bok sub id f).mono ?_;rintro e w' ⟨rfl,b,a⟩;obtain⟨d,G⟩:=x.book b a;exact⟨rfl,d,G,a⟩
def qI.blk (h:qI w0 w k s F): ∃vp d,w.heap[k.R]? =ϊ (.cells (zH k vp d s) 101 (0,0)):=by
 obtain⟨T,vp,d,x⟩:=h;exact⟨vp,d,x.blk⟩
def qI.nb (h:qI w0 w k s F):k.R≠k.b/\(∀b∈F,b≠k.b)/\k.b<w.heap.size:=by
 obtain⟨T,vp,I,x⟩:=h;obtain⟨_,d,H⟩:=x.all .book;refine⟨λe=> ?_,λb G e=> ?_,H.map.lt⟩
 ·rw[<-e,(x.all .room).1] at d;cases d
 ·rw[<-e,(x.law b G).1] at d;cases d
def Hm (s s':RmS):Prop:=s'.ret=s.ret/\s'.queue=s.queue/\s'.tab=s.tab/\s'.book=s.book/\s'.lanes=s.lanes/\s'.strs=s.strs/\s'.pks=s.pks/\s'.reqs=s.reqs/\s'.cfg=s.cfg
def qI.self (h:qI w0 w k s F) (a:jt (λb=>b=k.R) w w') (blk: ∀vp d,w.heap[k.R]? =ϊ (.cells (zH k vp d s) 101 (0,0))->w'.heap[k.R]? =ϊ (.cells (zH k vp d s') 101 (0,0))) (r:Hm s s'):qI w0 w' k s' F/\qw F w w':=by
 obtain⟨T,vp,d,x⟩:=h;obtain⟨I,J,N,O,U,Y,aa,ab,ac⟩:=r;refine x.self a (blk vp d x.blk) (λu H G y=> ?_);cases u<;>first | exact ϧ rfl H | exact ϧ rfl G | (unfold RmK.Holds at y ⊢;(try simp only[I,J,N,O,U,Y,aa,ab,ac]);(try exact y))
def qI.cell (h:qI w0 w k s F) (i:Nat) (v:Value) (e: ∀vp d,(zH k vp d s).setIfInBounds i v=zH k vp d s') (r:Hm s s'):qI w0 (w.setCell ⟨k.R,i,ϋ⟩ v) k s' F/\qw F w (w.setCell ⟨k.R,i,ϋ⟩ v):=
 h.self (jt.set (S:=λb=>b=k.R) (jt.refl _ _) (p:=⟨k.R,i,ϋ⟩) rfl v) (λvp d b=>qB (qp b i v) (e vp d)) r
def IB (h:qI w0 w k s F):w.cell? ⟨k.R,16,ϋ⟩=ϊ (ι s.cnt.lost)/\w.frozen? ⟨k.R,16,ϋ⟩=ύ/\ ∃vp d,w.heap[k.R]? =ϊ (.cells (zH k vp d s) 101 (0,0)):=by
 obtain⟨T,vp,d,x⟩:=h;exact⟨qa x.blk 16 rfl,yw x.blk 16,vp,d,x.blk⟩
def ME (h:qI w0 w k s F) (w1 w2:Int) (acc:Bool) (cp:0<=w1/\w1<=4) (az:2<=w1->(qh s.lanes w2).isSome=ό) (co:0<=s.cnt.lost/\s.cnt.lost<=1000000000):
  Calls prog 147 #[γ k.R,θ #[ι w1,ι w2],acc] w λe w'=>e= .returned (.tuple #[])/\qI w0 w' k (s.endW (w1,w2)) F/\qw F w w':=by
 have ca:=κ (h.stay (ql.alloc w (.cells #[ι w1,ι w2] 157)));have bB:=h.adds (ql.alloc w (.cells #[ι w1,ι w2] 157)) (Fn:=[w.heap.size]) (λb G=>by simp at G;subst G;simp);have aC:=κ (qj w (.cells #[ι w1,ι w2] 157));obtain⟨W1,bC⟩:=ν (w.alloc (.cells #[ι w1,ι w2] 157));rw[bC] at bB aC ca;have bl:=κ bB;have cW:=κ az;have cX:=κ co;have dm:=β0 aC.o;obtain⟨n0,cA⟩:=cp;clear h bB az co
 go_enter func147,ntmps147
 go_upto_block 0 with fail
 (try rw[bC])
 clear bC
 go_cut [5,6,7,8,9,10,11,12] from 17 to 94 (λ_ _ _ _ _ _ _ _ cG=>qI w0 cG k (s.drain (w1,w2)) ([w.heap.size]++F)/\qw ([w.heap.size]++F) W1 cG)
 case first=>
  by_cases e0:w1=0
  ·subst e0;obtain⟨T,vp,bL,I⟩:=bl.o;have H:=κ I;have dw: ¬RgB k.RQ k.AQ k.R:=by
    obtain⟨cD,cE,_⟩:=I.all .queue;rintro(e | e)
    ·rw[<-e,(I.all .room).1] at cD;cases cD
    ·rw[<-e,(I.all .room).1] at cE;cases cE
   have bs:=λ(x:qz (RgB k.RQ k.AQ) W1)=>x.h.blk H.o.blk dw
   have dA:=λx=>β16 (bs x);have dz:=λx=>β10 (bs x);clear bs
   have dJ:(s.queue.length:Int)<=8:=by have:=I.que.fit;omega
   obtain⟨dK,l1⟩:=cX.o;clear I
   go_upto_region 8 with fail
   refine QN (RgB k.RQ k.AQ) W1 15 16 [9,12,13,15] ?_
   refine Qs9 ?_
   (refine Ql ?_;intro K d)
   go_call FD (H.o.on (ql.drewN W1 1)) as e aS ⟨⟨cC,cap,rfl⟩,aK,cF,cf⟩;have aB:Hid (jt (RgB k.RQ k.AQ) W1 aS):=κ (((jt.refl _ _).drewN 1).trans cf);have dk:Hid (qw ([w.heap.size]++F) W1 aS):=κ ((H.o.at.stay (ql.drewN W1 1)).trans cF);have aD:=κ aK;clear aK cF cf;refine⟨_,rfl,qi aB.o,d _ _ ?_⟩;clear d K
   iterate 2 (refine qE rfl rfl (qi aB.o) ?_;intro K d;go_big_quiet_op;go_big_quiet_on)
   have dg:=κ (IB aD.o);obtain⟨dC,dE,aU⟩:=dg.o
   (refine Ql ?_;intro K d)
   refine⟨qi aB.o,d _ _ ?_⟩;clear d K
   (refine Ql ?_;intro K d)
   refine⟨qi aB.o,d _ _ ?_⟩;clear d K
   iterate 1 (refine qE rfl rfl (qi aB.o) ?_;intro K d;go_big_quiet_op;go_big_quiet_on)
   (refine Qe ?_;intro K d)
   refine d _ _ ?_;clear d K;refine qA ?_;have af:=aD.o.cell 16 (ι (s.cnt.lost+s.queue.length)) (s':={s with queue:=[],cnt:={s.cnt with lost:=s.cnt.lost+s.queue.length}}) (λ_ _=>rfl) ⟨rfl,rfl,rfl,rfl,rfl,rfl,rfl,rfl,rfl⟩;have af:=κ af;go_wp2;go_meet;exact⟨af.o.1,dk.o.trans af.o.2⟩
  ·by_cases e1:w1=1
   ·subst e1;obtain⟨T,vp,bL,I⟩:=bl.o;have H:=κ I;clear I;obtain⟨O,bH⟩:=ν (s.origins);have bW:=κ bH;have bX:=κ H.o.orgsF;rw[bH] at bX;clear bH
    go_wp2_with (go_at_call 71;(go_call bX.o as e aR ⟨cC,cap,Fn,rfl,cj,cH,cy,aO⟩;have bc:=κ aO;have cU:=κ cH.at;have de:=κ cy;have cY:=κ cj;clear aO cH cy cj))
    have di:=κ (H.o.at.stay de.o);have ba:Hid (s.drain (1,w2)=O.foldl RmS.drainO s):=κ (by rw[<-bW.o];rfl);have dI:=cY.o
    go_loopw [63] (λab wr=> ∃j:Nat,j<=O.length/\ab= ι j/\qI w0 wr k ((O.take j).foldl RmS.drainO s) (Fn++([w.heap.size]++F))/\qw (Fn++([w.heap.size]++F)) aR wr) (λab _=>O.length-(intOf ab).toNat)
    case atStart=>exact⟨0,τ,rfl,cU.o,qw.refl _ _⟩
    case round=>
     obtain⟨j,dt,rfl,N,J⟩:=hrel;have ax:=κ J;by_cases hlt:j<O.length
     ·have bF:(j:Int)<(O.length:Int):=by omega
      obtain⟨g,rfl,bA,c1⟩:=bc.o wr (λb G=>J.2 b (by simp[G])) j hlt;have br:Hid (O.take (j+1)=O.take j++[O[j]]):=κ (by rw[B9,ϖ hlt];rfl);have cl:(qh ((O.take j).foldl RmS.drainO s).strs O[j]).isSome=ό:=by
       rw[Y1];have:O[j]∈s.origins:=by rw[bW.o];exact ϥ hlt
       obtain⟨t,J⟩:=yB this;rw[J];rfl
      obtain⟨t,bI⟩:=Ϯ.1 cl;have cd:=κ bI;clear cl J;generalize O[j]=o at *;generalize cu:(O.take j).foldl RmS.drainO s=sj at *;have da:=κ cu;clear cu;obtain⟨U,o2⟩:=o;simp only at bA c1;obtain⟨aa,bd⟩:=ν (wr.alloc (.cells #[ι U,ι o2] 111));have ce:Hid (ql wr aa):=κ (by rw[<-bd];exact ql.alloc _ _);have bO:Hid (aa.heap[wr.heap.size]? =ϊ (.cells #[ι U,ι o2] 111 (0,0))):=κ (by rw[<-bd];exact qj wr _);have bx:=κ (ax.o.trans (N.stay ce.o));obtain⟨ag,dx,dy,cw⟩:=N;have ai:RmX ag w0 aa k dx dy sj ([wr.heap.size]++(Fn++([w.heap.size]++F))):=cw.adds ce.o (λb G=>by simp at G;subst G;exact⟨ϔ _,lt_of_block bO.o⟩);have aF:=κ ai;obtain⟨p,dh,v,aN,cx⟩:=ai.strAt bI;have ap:=κ cx;have aE:=κ aN;have bK: ¬ag k.R= .str (U,o2):=by rw[(ai.all .room).1];simp
      have bJ: ¬ag k.MS= .str (U,o2):=by rw[(ai.all .sts).1];simp
      have dv: ¬ag wr.heap.size= .str (U,o2):=by rw[(ai.law wr.heap.size η).1];simp
      have cL:=λ(x:qz (λb=>ag b= .str (U,o2)/\b≠p) aa)=>β13 (x.h.blk aF.o.blk (λq=>bK q.1))
      have bt:=λ(x:qz (λb=>ag b= .str (U,o2)/\b≠p) aa)=>x.h.blk bO.o (λq=>dv q.1)
      have aw:=λx=>β0 (bt x);have aX:=λx=>β1 (bt x);clear bt
      have bk: ∀x:qz (λb=>ag b= .str (U,o2)/\b≠p) aa,(Instr.lookup 95 (.map (ϊ k.MS)) (θ #[ι U,ι o2]) ύ).run prog x.w'= .ok (γ p) x.w':=λx=>by
       have:=ya (aF.o.stm.away x.h (λq=>bJ q.1)) (U,o2) ύ;rw[aE.o] at this;exact this
      have cM:=λ(x:qz (λb=>ag b= .str (U,o2)/\b≠p) aa)=>β0 (x.h.blk ap.o.blk (λq=>q.2 rfl))
      clear cw ai cx aN bI;have bU:Hid (∀x,(thJ t.buf.holds).foldl RmS.drain1 {sj with strs:=qx sj.strs (U,o2) {t with buf:=vP t.buf}}=x->sj.drainO (U,o2)=x):=κ (λx e=>by unfold RmS.drainO;rw[cd.o];exact e)
      go_upto_region 13 with fail
      (try rw[bd])
      clear bd bA c1;refine zp (λb=>ag b= .str (U,o2)/\b≠p) aa 12 [(0,ύ),(1,ύ),(2,ύ),(3,ύ),(4,ύ),(5,ύ),(6,ύ),(7,ύ),(8,ύ),(11,ύ),(9,ό),(10,ύ)] ξ ξ ?_
      refine Nx ?_
      (refine Ql ?_;intro K d)
      go_call Wn t.buf ap.o.ok dh v _ (ap.o.buf.on (ql.drewN aa 1)) as e w4 ⟨v4,rfl,v5,aI,_⟩;obtain⟨ch,t4⟩:=(aF.o.on (ql.drewN aa 1)).strBuf cd.o aE.o (ap.o.on (ql.drewN aa 1)) aI.step' aI.ok
      have bN:Hid (jt (λb=>ag b= .str (U,o2)/\b≠p) aa w4):=κ (((jt.refl _ _).drewN 1).trans (aI.away.mono (λb G=>by
       rcases G with rfl | G
       ·exact⟨ap.o.nb,C4 ap.o.ne⟩
       ·exact ap.o.nv _ G)))
      obtain⟨dL,dD,rfl,aL,cr⟩:=ZH aI.row;have bZ:=κ cr;have cT:=κ ch;have dj:=κ ((aF.o.at.stay (ql.drewN aa 1)).trans t4);have bp:Hid (k.b<aa.heap.size):=κ aF.o.at.nb.2.2;clear cr ch t4 aI;refine⟨_,rfl,qi bN.o,d _ _ ?_⟩;clear d K;obtain⟨L,ao⟩:=ν (thJ t.buf.holds);rw[ao] at bZ bU aL;unfold maxLen at aL;simp only[ao];clear ao
      iterate 1 (refine qE rfl rfl (qi bN.o) ?_;intro K d;go_big_quiet_op;go_big_quiet_on)
      refine qA ?_;clear cL bk cM aw aX;generalize {sj with strs:=qx sj.strs (U,o2) {t with buf:=vP t.buf}}=s4 at *;go_wp2;obtain⟨aA,rfl⟩: ∃aA:World,aA=wr:=⟨_,rfl⟩
      go_loopw [78] (λab wr=> ∃i:Nat,i<=L.length/\ab= ι i/\qI w0 wr k ((L.take i).foldl RmS.drain1 s4) ([aA.heap.size]++(Fn++([w.heap.size]++F)))/\qw ([aA.heap.size]++(Fn++([w.heap.size]++F))) w4 wr/\jt (λb=>b=k.b) w4 wr) (λab _=>L.length-(intOf ab).toNat)
      case atStart=>exact⟨0,τ,rfl,cT.o,qw.refl _ _,jt.refl _ _⟩
      case round=>
       obtain⟨i,hi,rfl,N,J,ac⟩:=hrel;have an:=κ N;have cc:=κ J;have bS:=κ ac;clear N J ac;by_cases hlt2:i<L.length
       ·have ds:(i:Int)<(L.length:Int):=by omega
        obtain⟨dF,rfl,c2⟩:=bZ.o wr (λb bf dq=>bS.o.block b dq (by have:=bp.o;have bf:aa.heap.size<=b:=bf;omega)) i hlt2;have db:Hid (L.take (i+1)=L.take i++[L[i]]):=κ (by rw[B9,ϖ hlt2];rfl);generalize L[i]=id at *;generalize ct:(L.take i).foldl RmS.drain1 s4=s5 at *;have cZ:=κ ct;clear ct;go_wp2;obtain⟨bi,cv⟩: ∃bi:World,bi=wr:=⟨_,rfl⟩;have dB:=κ cv;obtain rfl:=cv
        go_loopw [82,10] (λab dM wr=> ∃n:Nat,n<=6/\ab= ι n/\qI w0 wr k {s5 with book:=xG s5.book (subIds.take n) id 8} ([aA.heap.size]++(Fn++([w.heap.size]++F)))/\qw ([aA.heap.size]++(Fn++([w.heap.size]++F))) bi wr/\jt (λb=>b=k.b) bi wr) (λab _ _=>6-(intOf ab).toNat)
        case atStart=>exact⟨0,τ,rfl,an.o,qw.refl _ _,jt.refl _ _⟩
        case round=>
         obtain⟨n,cp,rfl,N,J,ac⟩:=hrel;have bY:=κ N;have cb:=κ J;have bQ:=κ ac;obtain⟨aj,ak,aU⟩:=N.blk;have bA:=β0 aU;clear N J ac;by_cases hlt3:n<6
         ·have du:(n:Int)<6:=by omega
          have dc:=κ (QW hlt3)
          go_wp2_with (go_at_call 178;(go_call Xt bY.o (n:Int) id 8 as e w7 ⟨rfl,aJ,aQ,aH⟩;have bm:=κ aJ;have bz:=κ aQ;have aT:=κ aH;clear aJ aQ aH))
          go_roundw
          case rel=>exact⟨n+1,τ,by go_num,by have:=bm.o;unfold xG at this ⊢;rw[dc.o,Φ];exact this,cb.o.trans bz.o,bQ.o.trans aT.o⟩
          case measure=>simp[intOf];omega
         ·obtain rfl:n=6:=by omega
          have du: ¬((6:Nat):Int)<6:=by omega
          go_wp2;go_roundw
          case rel=>exact⟨i+1,τ,by go_num,by rw[db.o,Φ,cZ.o];exact bY.o,cc.o.trans cb.o,bS.o.trans bQ.o⟩
          case measure=>simp[intOf];omega
       ·obtain rfl:i=L.length:=by omega
        have ds: ¬(L.length:Int)<(L.length:Int):=by omega
        go_wp2;go_roundw
        case rel=>exact⟨j+1,τ,by go_num,by rw[br.o,Φ,da.o];have:=an.o;rw[Ϩ] at this;rw[<-bU.o _ rfl] at this;obtain⟨ae,aj,ak,Y⟩:=this;exact⟨ae,aj,ak,Y.sub (λb G=>ϐ _ G)⟩,bx.o.trans ((dj.o.trans cc.o).sub (λb G=>ϐ _ G))⟩
        case measure=>simp[intOf];omega
     ·obtain rfl:j=O.length:=by omega
      have bF: ¬(O.length:Int)<(O.length:Int):=by omega
      go_wp2;go_meet;exact⟨by rw[ba.o];have:=N;rw[Ϩ] at this;obtain⟨ae,aj,ak,Y⟩:=this;exact⟨ae,aj,ak,Y.sub (λb G=>ϐ _ G)⟩,(di.o.trans (ax.o.sub (λb G=>ϐ _ G)))⟩
   ·have ci:2<=w1:=by omega
    obtain⟨T,vp,bL,I⟩:=bl.o;have H:=κ I;obtain⟨l,az⟩:=Ϯ.1 (cW.o ci);obtain⟨p,aN,cn⟩:=I.laneAt az;have cV:=κ cn;have aE:=κ aN;have bV:=κ az;have bK: ¬T k.R= .lane w2:=by rw[(I.all .room).1];simp
    have bJ: ¬T k.ML= .lane w2:=by rw[(I.all .lns).1];simp
    have bh: ¬T w.heap.size= .lane w2:=by rw[(I.law w.heap.size η).1];simp
    have cK:=λ(x:qz (λb=>T b= .lane w2) W1)=>β12 (x.h.blk H.o.blk bK)
    have bu:=λ(x:qz (λb=>T b= .lane w2) W1)=>x.h.blk aC.o bh
    have cO:=λx=>β0 (bu x);have cN:=λx=>β1 (bu x);clear bu
    have bk: ∀x:qz (λb=>T b= .lane w2) W1,(Instr.lookup 94 (.map (ϊ k.ML)) (ι w2) ύ).run prog x.w'= .ok (γ p) x.w':=λx=>by
     have:=xq (H.o.lnm.away x.h bJ) w2 ύ;rw[aE.o] at this;exact this
    have dp:(w1==0)=ύ:=by simp[e0]
    have bf:(w1==1)=ύ:=by simp[e1]
    have am:Hid (¬w1=0/\ ¬w1=1):=κ ⟨e0,e1⟩;clear I az aN cn e0 e1 n0 cA ci
    go_upto_region 2 with fail
    refine zp (λb=>T b= .lane w2) W1 12 [(0,ύ),(1,ύ),(2,ύ),(3,ύ),(4,ύ),(5,ύ),(6,ύ),(7,ύ),(11,ύ),(8,ό),(9,ό),(10,ύ)] ξ ξ ?_
    refine Qs9 ?_
    (refine Ql ?_;intro K d)
    go_call Z4 w1 w2 _ as e aS ⟨rfl,md⟩;have ay:Hid (ql W1 aS):=κ ((ql.drewN W1 1).trans md);clear md;refine⟨_,rfl,qi (jt.of_more ay.o),d _ _ ?_⟩;clear d K
    (refine Ql ?_;intro K d)
    go_call PZ (cV.o.on ay.o) (xB w1) (Kb w1) as e aR ⟨⟨v3,rfl,cq⟩,ai,a3⟩;obtain⟨cg,t3⟩:=(H.o.on ay.o).lanePut bV.o aE.o ai a3;have bM:Hid (jt (λb=>T b= .lane w2) W1 aR):=κ ((jt.of_more ay.o).trans a3);have bP:=κ cg;have bx:Hid (qw ([w.heap.size]++F) W1 aR):=κ ((H.o.at.stay ay.o).trans t3);obtain⟨cC,cap,rfl,aL,aO⟩:=ZH cq;have bc:=κ aO;clear cq ai a3 cg t3 aO;refine⟨_,rfl,qi bM.o,d _ _ ?_⟩;clear d K;obtain⟨L,ao⟩:=ν (KG l (xB w1));have ba:Hid (s.drain (w1,w2)={s with lanes:=qx s.lanes w2 (vh l (xB w1)),book:=L.foldl (λb id=>jp b w2 id 8) s.book}):=κ (by unfold RmS.drain RmS.drainL;simp only[Ϗ am.o.1,Ϗ am.o.2,bV.o,ao]);rw[ao] at bc aL;unfold maxLen at aL;simp only[ao];clear ao
    iterate 1 (refine qE rfl rfl (qi bM.o) ?_;intro K d;go_big_quiet_op;go_big_quiet_on)
    refine qA ?_;clear cK cO cN bk;have bp:Hid (k.b<aS.heap.size):=κ (ϗ H.o.at.nb.2.2 ay.o.size);obtain⟨dn,ck⟩:=ν (vh l (xB w1));rw[ck] at bP ba;clear ck;go_wp2
    go_loopw [28] (λab wr=> ∃j:Nat,j<=L.length/\ab= ι j/\qI w0 wr k {s with lanes:=qx s.lanes w2 dn,book:=(L.take j).foldl (λb id=>jp b w2 id 8) s.book} ([w.heap.size]++F)/\qw ([w.heap.size]++F) W1 wr/\jt (λb=>b=k.b) aR wr) (λab _=>L.length-(intOf ab).toNat)
    case atStart=>exact⟨0,τ,rfl,bP.o,bx.o,jt.refl _ _⟩
    case round=>
     obtain⟨j,dt,rfl,N,J,ac⟩:=hrel;have an:=κ N;have ax:=κ J;have bT:=κ ac;clear N J ac;by_cases hlt:j<L.length
     ·have bF:(j:Int)<(L.length:Int):=by omega
      obtain⟨g,rfl,dG⟩:=bc.o wr (λg dH dr=>bT.o.block g dr (by have:=bp.o;omega)) j hlt;have br:Hid (L.take (j+1)=L.take j++[L[j]]):=κ (by rw[B9,ϖ hlt];rfl);generalize L[j]=id at *
      go_upto_region 5 with fail
      obtain⟨nb,cB,_⟩:=an.o.nb;obtain⟨aj,ak,aU⟩:=an.o.blk;have cJ:=κ (ax.o.blk η aC.o);have bh:=cB w.heap.size η;have aw:=λ(x:qz (λb=>b=k.b) wr)=>β0 (x.h.blk aU nb)
      have cP:=λ(x:qz (λb=>b=k.b) wr)=>β1 (x.h.blk cJ.o bh)
      refine QN (λb=>b=k.b) wr 8 8 [7] ?_
      refine Qs7 ?_
      (refine Ql ?_;intro K d)
      go_call Xt (an.o.on (ql.drewN wr 1)) w2 id 8 as e w7 ⟨rfl,aJ,aQ,aH⟩;have bm:=κ aJ;have bz:=κ aQ;have aT:Hid (jt (λb=>b=k.b) wr w7):=κ (((jt.refl _ _).drewN 1).trans aH);clear aJ aQ aH;refine⟨_,rfl,qi aT.o,d _ _ ?_⟩;clear d K aw cP nb cB bh;refine qA ?_;go_wp2;go_roundw
      case rel=>exact⟨j+1,τ,by go_num,by rw[br.o,Φ];exact bm.o,ax.o.trans ((an.o.stay (ql.drewN wr 1)).trans bz.o),bT.o.trans aT.o⟩
      case measure=>simp[intOf];omega
     ·obtain rfl:j=L.length:=by omega
      have bF: ¬(L.length:Int)<(L.length:Int):=by omega
      go_wp2;go_meet;exact⟨by rw[ba.o];have:=an.o;rw[Ϩ] at this;exact this,ax.o⟩
 case rest=>
  obtain⟨aK,J⟩:=hcut;have aD:=κ aK;have dd:=κ J;have bj:=κ (J.blk η aC.o);clear aK J dm;obtain⟨av,bg⟩:=ν (s.drain (w1,w2));rw[bg] at aD;have dp:=β0 bj.o;have bf:=β1 bj.o;obtain⟨aq,bD⟩:=ν ((vi (w1,w2)).1.1);obtain⟨ar,bE⟩:=ν ((vi (w1,w2)).1.2);obtain⟨ok,bG⟩:=ν ((vi (w1,w2)).2);have bR:=κ (CM w1 w2 ⟨n0,cA⟩ wc);rw[bD,bE,bG] at bR;have bb:Hid (s.goesR (w1,w2)=(!ok||(qh s.ret (aq,ar)).getD ύ)):=κ (by unfold RmS.goesR;rw[bG,<-bD,<-bE]);have bn:Hid (av.ret=s.ret):=κ (by rw[<-bg];exact PV s _);have bo:=κ bg;clear bg bD bE bG;have bq:=κ (ca.o.trans (dd.o.sub (F':=F) (λb G=>ϐ _ G)))
  go_upto_region 24 with (go_at_call 183;(go_call bR.o as e w5 ⟨rfl,cz⟩;have df:=κ cz;clear cz))
  obtain⟨W6,be⟩:=ν (w5.alloc (.cells #[ι aq,ι ar] 157));have ah:Hid (ql wc W6):=κ (by rw[<-be];exact df.o.al _);have cI:Hid (W6.heap[w5.heap.size]? =ϊ (.cells #[ι aq,ι ar] 157 (0,0))):=κ (by rw[<-be];exact qj w5 _)
  (try rw[be])
  clear be;obtain⟨T,vp,bL,I⟩:=aD.o;have H:=κ I;clear I;have aV:=λ(x:qt W6)=>β8 (qq (ah.o.trans x.h) H.o.blk)
  have bv:=λ(x:qt W6)=>qq (ah.o.trans x.h) bj.o
  have aY:=λx=>β0 (bv x);have aZ:=λx=>β1 (bv x);clear bv
  have bw:=λ(x:qt W6)=>qq x.h cI.o
  have aw:=λx=>β0 (bw x);have aX:=λx=>β1 (bw x);clear bw
  have aW: ∀x:qt W6,(Instr.lookup 91 (.map (ϊ k.M1)) (θ #[ι aq,ι ar]) ύ).run prog x.w'= .ok (μ ((qh av.ret (aq,ar)).getD ύ)) x.w':=λx=>VH (H.o.retm.more (ah.o.trans x.h)) (aq,ar)
  rw[bn.o] at aW;obtain⟨g,cm⟩:=ν ((qh s.ret (aq,ar)).getD ύ);rw[cm] at aW bb;clear cm;cases ok with
  | false=>
   have am:Hid (s.endW (w1,w2)={av with ret:=qx av.ret (w1,w2) ό}):=κ (by unfold RmS.endW;rw[bb.o,bo.o,bn.o];rfl);refine qD _ (ql.refl _) ξ ξ ?_
   repeat (go_big_quiet_step (fail))
   refine wpQuiet_nil ?_;intro _ aP;obtain⟨Y,rfl⟩:=aP
   go_upto_region 25 with fail
   obtain⟨W7,au⟩:=ν (Y.w');have ad:Hid (ql W6 W7):=κ (by rw[<-au];exact Y.h)
   (try rw[au])
   clear au aW aw aX;have cQ: ∀x:qt W7,x.w'.cell? ⟨k.R,8,ϋ⟩=ϊ (.map (ϊ k.M1)):=λx=>aV ⟨_,ad.o.trans x.h⟩
   have cR: ∀x:qt W7,x.w'.cell? ⟨w.heap.size,0,ϋ⟩=ϊ (ι w1):=λx=>aY ⟨_,ad.o.trans x.h⟩
   have cS: ∀x:qt W7,x.w'.cell? ⟨w.heap.size,1,ϋ⟩=ϊ (ι w2):=λx=>aZ ⟨_,ad.o.trans x.h⟩
   clear aV aY aZ;refine Qn W7 5 6 [5] ?_
   refine Qq5 ?_
   have aG:=κ (H.o.on (ah.o.trans (ad.o.trans (ql.drewN W7 1))));obtain⟨w9,N,aM,ac,_⟩:=aG.o.retm.update KX underlying91 (w1,w2) ό;unfold kO at N;have af:=κ (aG.o.retMap aM ac);have ae:=κ (H.o.at.stay (ah.o.trans (ad.o.trans (ql.drewN W7 1))));clear aM ac
   (refine Qe ?_;intro K d)
   refine d _ _ ?_;clear d K;refine qA ?_;go_wp2
   (refine bodyPost_end (v:= .tuple #[]) ?re1 rfl ?_;(case re1=>simp[results,results147,go_sem]))
   exact⟨rfl,by rw[am.o];obtain⟨ae,aj,ak,Y⟩:=af.o.1;exact⟨ae,aj,ak,Y.sub (λb G=>ϐ _ G)⟩,bq.o.trans ((ae.o.trans af.o.2).sub (λb G=>ϐ _ G))⟩
  | true=>
   cases g with
   | true=>
    have am:Hid (s.endW (w1,w2)={av with ret:=qx av.ret (w1,w2) ό}):=κ (by unfold RmS.endW;rw[bb.o,bo.o,bn.o];rfl);refine qD _ (ql.refl _) ξ ξ ?_
    repeat (go_big_quiet_step (fail))
    refine wpQuiet_nil ?_;intro _ aP;obtain⟨Y,rfl⟩:=aP
    go_upto_region 25 with fail
    obtain⟨W7,au⟩:=ν (Y.w');have ad:Hid (ql W6 W7):=κ (by rw[<-au];exact Y.h)
    (try rw[au])
    clear au aW aw aX;have cQ: ∀x:qt W7,x.w'.cell? ⟨k.R,8,ϋ⟩=ϊ (.map (ϊ k.M1)):=λx=>aV ⟨_,ad.o.trans x.h⟩
    have cR: ∀x:qt W7,x.w'.cell? ⟨w.heap.size,0,ϋ⟩=ϊ (ι w1):=λx=>aY ⟨_,ad.o.trans x.h⟩
    have cS: ∀x:qt W7,x.w'.cell? ⟨w.heap.size,1,ϋ⟩=ϊ (ι w2):=λx=>aZ ⟨_,ad.o.trans x.h⟩
    clear aV aY aZ;refine Qn W7 5 6 [5] ?_
    refine Qq5 ?_
    have aG:=κ (H.o.on (ah.o.trans (ad.o.trans (ql.drewN W7 1))));obtain⟨w9,N,aM,ac,_⟩:=aG.o.retm.update KX underlying91 (w1,w2) ό;unfold kO at N;have af:=κ (aG.o.retMap aM ac);have ae:=κ (H.o.at.stay (ah.o.trans (ad.o.trans (ql.drewN W7 1))));clear aM ac
    (refine Qe ?_;intro K d)
    refine d _ _ ?_;clear d K;refine qA ?_;go_wp2
    (refine bodyPost_end (v:= .tuple #[]) ?re2 rfl ?_;(case re2=>simp[results,results147,go_sem]))
    exact⟨rfl,by rw[am.o];obtain⟨ae,aj,ak,Y⟩:=af.o.1;exact⟨ae,aj,ak,Y.sub (λb G=>ϐ _ G)⟩,bq.o.trans ((ae.o.trans af.o.2).sub (λb G=>ϐ _ G))⟩
   | false=>
    have am:Hid (s.endW (w1,w2)=av):=κ (by unfold RmS.endW;rw[bb.o,bo.o];rfl);refine qD _ (ql.refl _) ξ ξ ?_
    repeat (go_big_quiet_step (fail))
    refine wpQuiet_nil ?_;intro _ aP;obtain⟨Y,rfl⟩:=aP;go_wp2
    (refine bodyPost_end (v:= .tuple #[]) ?re3 rfl ?_;(case re3=>simp[results,results147,go_sem]))
    have dl:=H.o.at.stay (ah.o.trans Y.h);exact⟨rfl,by rw[am.o];exact⟨_,_,_,(H.o.on (ah.o.trans Y.h)).sub (λb G=>ϐ _ G)⟩,bq.o.trans (dl.sub (λb G=>ϐ _ G))⟩
def NoU (w:World) (b:Nat):Prop:= ∀o k n,k≠IntKind.i64->w.cell? ⟨b,o,ϋ⟩≠ϊ (.int k n)
section
variable {S:Nat->Prop} {w w':World}
def SlI.noU {k:IntKind} (h:SlI k w v l) (O:k≠ .i64) (a:jt S w w') (U: ∀b,S b->NoU w b):SlI k w' v l:=by
 obtain⟨Y,cap,H,I,J,N⟩:=h;refine⟨Y,cap,H,I,λi hi=> ?_,N⟩;obtain⟨b,off,e,d,G⟩:=J i hi;exact⟨b,off,e,ϗ d a.size,by rw[a.cells b _ d (λs=>U b s _ _ _ O G)];exact G⟩
def SlP.noU {α:Type} {n:Nat} {R:qL α} {l:List α} (h:SlP n R w v l) (a:jt S w w') (af: ∀b,S b->NoU w b)
  (ae: ∀cs x,R w cs x->R w' cs x/\ ∃j k m,j<n/\k≠IntKind.i64/\cs[j]? =ϊ (.int k m)):SlP n R w' v l:=by
 obtain⟨ah,cap,H,I,J,N⟩:=h;refine⟨ah,cap,H,I,λi hi=> ?_,N⟩;obtain⟨b,off,cs,e,d,ac,G,O⟩:=J i hi;obtain⟨U,j,k,m,Y,ab,ad⟩:=ae cs _ O;refine⟨b,off,cs,e,ϗ d a.size,ac,λag aa=> ?_,U⟩;rw[a.cells b _ d (λs=>af b s _ _ _ ab ((G j Y).trans ad))];exact G ag aa
def Qk.noU {x:Itm} (h:Qk w cs x) (a:jt S w w') (d: ∀b,S b->NoU w b):Qk w' cs x/\ ∃j k m,j<17/\k≠IntKind.i64/\cs[j]? =ϊ (.int k m):=by
 obtain⟨vb,H,I,vo,rfl,s,G⟩:=h;refine⟨⟨vb,H,I,vo,rfl,⟨s.bl.noU a d ?_,⟨s.ms.asks.noU a d ?_,s.ms.lost.noU ζ a d⟩,s.bo.noU ζ a d⟩,G⟩,10,_,_,ζ, ?_,rfl⟩
 ·rintro cs x ⟨rfl,h⟩;exact⟨⟨rfl,h⟩,0,_,_,ζ,ζ,rfl⟩
 ·rintro cs x ⟨rfl,h⟩;exact⟨⟨rfl,h⟩,0,_,_,ζ,ζ,rfl⟩
 ·decide
def PC {l:List Itm} (h:SlP 17 Qk w v l) (a:jt S w w') (d: ∀b,S b->NoU w b):SlP 17 Qk w' v l:=h.noU a d λ_ _ G=>G.noU a d
end
def Kf {c:qQ} (G:c.1<=31):(qG c).1.bl.length<=100000:=by
 have d: ∀(r:Rep) (s:RdS),r.bl.length<=100000->(yZ r s).1.bl.length<=100000:=by
  intro r s h;unfold yZ;split
  ·exact h
  ·exact ϫ _
 unfold qG;split
 ·decide
 ·split
  ·exact d _ _ (by simp only;rw[uz];omega)
  ·split
   ·exact d _ _ (by simp only;rw[uz];omega)
   ·decide
def GK (U:Byt b) (h:(zx b).2=0):(zx b).1.length<=200/\ ∀x∈(zx b).1,CY x:=by
 have d:(jI b).2=0:=by
  cases G:decide ((jI b).2=0) with
  | true=>exact Ϧ G
  | false=>
   have:=D8 G;unfold zx at h;rw[Ϗ this] at h;exact ϧ h this
 obtain⟨J,_,_,N⟩:=QY U (k:=(jI b).1) (by rw[<-d]);obtain⟨_,O,_⟩:=Cc J;have Y:(zx b).1=(jI b).1.map λc=>(qv c).1:=by
  unfold zx at h ⊢;rw[ϓ d] at h ⊢;split at h
  ·rename_i H;rw[ϓ H]
  ·rename_i H;exact ϧ h H
 generalize (jI b).1=l at *;rw[Y];refine⟨?_,λx aa=> ?_⟩
 ·rw[ϱ];by_cases d:0<l.length
  ·exact(Xa N 0 d).2
  ·omega
 ·obtain⟨c,G,rfl⟩:=ο.1 aa;obtain⟨ab,_,ac⟩:=(zO c).1 (O c G);have I:=Kg (c:=c) τ;unfold qv;split
  ·exact⟨Kf ab,ϫ _,ϫ _,ϫ _⟩
  split
  ·exact⟨ϫ _,ϫ _,ϫ _,by show c.2.2.1.length<=1000000;omega⟩
  ·exact⟨ϫ _,I.1,I.2,ϫ _⟩
def RmX.ints (h:RmX T w0 w k vp vr s F) (m:ql w w') {J:IntKind} (ab:SlI J w' v L) (Y: ∀q,v.ownBlock=ϊ q->w.heap.size<=q):
  ∃G cap Fn,v= δ G L.length cap/\(L.length:Int)<=9223372036854775807/\RmX T w0 w' k vp vr s (Fn++F)/\ ∀w'':World,(∀b∈Fn,w''.heap[b]? =w'.heap[b]?)-> ∀i (hi:i<L.length),∃b off,G=ϊ ⟨b,off,ϋ⟩/\w''.cell? ⟨b,off+i,ϋ⟩=ϊ (.int J L[i]):=by
 obtain⟨G,cap,rfl,U,aa,_⟩:=ab;refine⟨G,cap,match G with | some a=>if w.heap.size<=a.block/\a.block<w'.heap.size then [a.block] else [] | none=>[],rfl,U,h.adds m (λb d=> ?_),λw'' I i hi=> ?_⟩
 ·cases G with
  | none=>simp at d
  | some a=>
   simp only at d;split at d
   ·rename_i H;simp at d;subst d;exact H
   ·simp at d
 ·obtain⟨b,off,rfl,H,N⟩:=aa i hi;have O:=Y b rfl;simp only[O,H,and_self,C1] at I;have e:=I b η;refine⟨b,off,rfl, ?_⟩;rw[World.cell?_of_block e,N];simp[hi]
def Ub (n:Int) (w:World):Calls prog 60 #[ι n] w λe w'=>e= .returned (μ (jj n))/\w'=w:=by
 have G:Hid (jj n=decide (0<=n/\n<3)):=κ rfl;by_cases h1:0<=n
 ·by_cases h2:n<3
  ·have d:jj n=ό:=by rw[G.o];simp[h1,h2]
   rw[d];clear d G
   go_enter func60,ntmps60
   go_wp2;go_ret;exact⟨rfl,rfl⟩
  ·have d:jj n=ύ:=by rw[G.o];simp[h2]
   rw[d];clear d G
   go_enter func60,ntmps60
   go_wp2;go_ret;exact⟨rfl,rfl⟩
 ·have d:jj n=ύ:=by rw[G.o];simp[h1]
  rw[d];clear d G
  go_enter func60,ntmps60
  go_wp2;go_ret;exact⟨rfl,rfl⟩
def Zy (s:RmS):Prop:= ∀x sb,qh s.tab.u x=ϊ sb->sb.2.1=ό-> ∀n,jj n=ό->(qh s.strs (sb.2.2,n)).isSome=ό
structure zQ (s s':RmS):Prop where
 tab:s'.tab=s.tab
 lanes:s'.lanes=s.lanes
 strs: ∀x,(qh s'.strs x).isSome=(qh s.strs x).isSome
def zQ.refl (s:RmS):zQ s s:=⟨rfl,rfl,λ_=>rfl⟩
def zQ.trans {a b c:RmS} (h:zQ a b) (k:zQ b c):zQ a c:=⟨k.tab.trans h.tab,k.lanes.trans h.lanes,λx=>(k.strs x).trans (h.strs x)⟩
def Um (s:RmS) (x:Int):zQ s (s.tell1 x):=by
 unfold RmS.tell1;cases qh s.tab.u x with
 | none=>exact zQ.refl s
 | some sb=>
  simp only;split
  ·cases qh s.lanes x with
   | none=>exact zQ.refl s
   | some l=>
    simp only;split
    ·cases ht:qh s.strs (sb.2.2,l.cur) with
     | none=>exact zQ.refl s
     | some t=>
      refine⟨rfl,rfl,λo=> ?_⟩;simp only[qF];split
      ·rename_i e;rw[e,ht];rfl
      ·rfl
    ·exact zQ.refl s
  ·exact zQ.refl s
def QV (L:List Int): ∀s:RmS,zQ s (L.foldl RmS.tell1 s):=by
 induction L with
 | nil=>exact zQ.refl
 | cons x L ih=>exact λs=>(Um s x).trans (ih _)
def Ul (L:List Int): ∀s:RmS,zQ s (L.foldl RmS.tellS s):=by
 induction L with
 | nil=>exact zQ.refl
 | cons x L ih=>exact λs=>(QV _ s).trans (ih _)
def zQ.subs (h:zQ s s') (k:zc s):zc s':=⟨by rw[h.tab];exact k.keys,by rw[h.tab,h.lanes];exact k.lane,by rw[h.tab];exact k.few⟩
def zQ.pub (h:zQ s s') (k:Zy s):Zy s':=λx I d G n H=>by
 rw[h.tab] at d;rw[h.strs];exact k x I d G n H
section
variable {w0 w w':World} {k:RmK} {s:RmS} {F F':List Nat}
def qI.noU (h:qI w0 w k s F):NoU w k.R:=by
 obtain⟨T,vp,N,x⟩:=h;obtain⟨xs,d,_⟩:=(x.all .pks).1.row;obtain⟨O,G,_⟩:=(x.all .reqs).1.row;obtain⟨J,c1,rfl⟩:=xl d;obtain⟨o2,c2,rfl⟩:=xl G;intro o I n H;rw[cell_of_row w k.R o _ _ _ x.blk];unfold zH
 match o with
 | 0 | 1 | 2 | 3 | 4 | 5 | 6 | 7 | 8 | 9 | 10 | 11 | 12 | 13 | 14 | 15 | 16 | 17 | 18 | 19 | 20=>simp;try (intro e;exact ϧ e.symm H)
 | n+21=>simp
def Mt (h:qI w0 w k s F) (bA:zc s) (ap:Zy s) (b:List Int) (v:Value) (bK:SlI .u8 w v b) (d:Byt b) (cp:b.length<=1000000) (cm:0<=s.cnt.malf/\s.cnt.malf<=1000000000/\0<=s.cnt.told/\s.cnt.told<=1000000000):
  Calls prog 186 #[γ k.R,v] w λe w'=>e= .returned (.tuple #[])/\qI w0 w' k (s.tell b) F/\qw F w w':=by
 have aw:=κ h;have ay:=κ (Dr b v w bK d cp);have an:=κ (GK (b:=b) d);have aM:=κ bA;have bX:=κ ap;obtain⟨cR,cS,t0,t1⟩:=cm;obtain⟨bp,aW⟩:=ν ((zx b).2);have bg:=κ aW;rw[aW] at ay an;obtain⟨cW,cI,rfl,_⟩:=bK;clear h bA ap aW d;by_cases he:bp=0
 ·subst he;have ak:Hid (s.tell b=(xU (zx b).1).foldl RmS.tellS {s with cnt:={s.cnt with told:=s.cnt.told+1}}):=κ (by unfold RmS.tell;rw[ϓ bg.o]);obtain⟨bF,bu⟩:=ν ((zx b).1);rw[bu] at ay an ak;clear bu;obtain⟨bq,br⟩:=an.o rfl;have bT:=κ bq;have bU:=κ br;clear bq br an
  go_enter func186,ntmps186
  go_upto_region 3 with (go_at_call 240;(go_call ay.o as e w1 ⟨bM,rfl,s1,U⟩;have bm:=κ s1;have ch:=κ U;have ac:=κ (aw.o.on U);have aD:=κ (aw.o.stay U);clear s1 U))
  obtain⟨vp,cr,ab⟩:=ac.o.blk;have cG:=β19 ab;have cK:=yw ab 19;clear ab;have ad:=κ (ac.o.cell 19 (ι (s.cnt.told+1)) (s':={s with cnt:={s.cnt with told:=s.cnt.told+1}}) (λ_ _=>rfl) ⟨rfl,rfl,rfl,rfl,rfl,rfl,rfl,rfl,rfl⟩);have aT:=κ (PC bm.o (jt.set (S:=λb=>b=k.R) (jt.refl _ _) (p:=⟨k.R,19,ϋ⟩) rfl (ι (s.cnt.told+1))) (λb d=>by rw[d];exact ac.o.noU));have bo:=κ (aD.o.trans ad.o.2);obtain⟨W2,bs⟩:=ν (w1.setCell ⟨k.R,19,ϋ⟩ (ι (s.cnt.told+1)));rw[bs] at ad aT bo;obtain⟨st,aI⟩: ∃st:RmS,{s with cnt:={s.cnt with told:=s.cnt.told+1}}=st:=⟨_,rfl⟩;have aR:=κ ad.o.1;rw[aI] at aR ak;have cc:Hid (zc st):=κ (by rw[<-aI];exact⟨aM.o.keys,aM.o.lane,aM.o.few⟩);have bY:Hid (Zy st):=κ (by rw[<-aI];exact bX.o);have bS:=κ (Wo bF bM W2 aT.o (by have:=bT.o;omega) bU.o);generalize xU bF=A at *;clear aI ad aT ac aD bm ch
  go_wp2_with (first | ((try rw[bs]);(go_at_call 241;(go_call bS.o as e ct ⟨cY,rfl,⟨aa,n3⟩,aZ⟩;obtain⟨cy,cZ,de,bN⟩:=aR.o;obtain⟨cT,cap,av,rfl,cP,ar,bx⟩:=bN.ints aZ aa n3;have ca:=κ bx;have bQ:=κ ar.at;have ci:=κ (bo.o.trans (aR.o.stay aZ));clear aa n3 aZ bN ar bx))))
  go_loopw [41] (λah wr=> ∃j:Nat,j<=A.length/\ah= ι j/\qI w0 wr k ((A.take j).foldl RmS.tellS st) (av++F)/\qw (av++F) ct wr) (λah _=>A.length-(intOf ah).toNat)
  case atStart=>exact⟨0,τ,rfl,bQ.o,qw.refl _ _⟩
  case round=>
   obtain⟨j,cO,rfl,aq,J⟩:=hrel;have ax:=κ aq;have aQ:=κ J;clear aq J;by_cases hlt:j<A.length
   ·have co:(j:Int)<(A.length:Int):=by omega
    obtain⟨cD,off,rfl,cM⟩:=ca.o wr (λb d=>aQ.o.2 b (by simp[d])) j hlt;have cf:Hid (A.take (j+1)=A.take j++[A[j]]):=κ (by rw[B9,ϖ hlt];rfl);generalize A[j]=src at *;have bn:=κ (Ul (A.take j) st);generalize bC:(A.take j).foldl RmS.tellS st=sj at *;have cd:=κ bC;clear bC;obtain⟨cB,dc,dh,bd⟩:=ax.o;have aO:=κ (bn.o.subs cc.o);have bj:=κ (FO bd.tab src aO.o.keys aO.o.few);obtain⟨L,aE⟩:=ν (prR (zV src) sj.tab.u);have bW:Hid (∀x∈L,∃bc l,qh sj.tab.u x=ϊ bc/\qh sj.lanes x=ϊ l):=κ (λx bD=>by rw[<-aE] at bD;exact Vq aO.o bD);have bV:Hid (sj.tellS src=L.foldl RmS.tell1 sj):=κ (by unfold RmS.tellS;rw[aE]);rw[aE] at bj;have ck:=β11 bd.blk;clear aE bd
    go_wp2_with (go_at_call 242;(go_call bj.o as e w4 ⟨⟨vb,rfl,bJ,bI⟩,ba⟩;obtain⟨cz,da,df,ar⟩:=ax.o;obtain⟨cU,cH,be,rfl,cQ,bO,bz⟩:=ar.ints ba bJ bI;have cb:=κ bz;have bR:=κ bO.at;have cj:=κ (aQ.o.trans (ax.o.stay ba));clear bJ bI ba ar bO bz))
    go_loopw [52] (λah wr=> ∃i:Nat,i<=L.length/\ah= ι i/\qI w0 wr k ((L.take i).foldl RmS.tell1 sj) (be++(av++F))/\qw (be++(av++F)) w4 wr) (λah _=>L.length-(intOf ah).toNat)
    case atStart=>exact⟨0,τ,rfl,bR.o,qw.refl _ _⟩
    case round=>
     obtain⟨i,hi,rfl,aq,J⟩:=hrel;have N:=κ aq;have ai:=κ J;clear aq J;by_cases hlt2:i<L.length
     ·have cn:(i:Int)<(L.length:Int):=by omega
      obtain⟨cE,cV,rfl,cN⟩:=cb.o wr (λb d=>ai.o.2 b (by simp[d])) i hlt2;have aB:Hid (L.take (i+1)=L.take i++[L[i]]):=κ (by rw[B9,ϖ hlt2];rfl);obtain⟨bc,l,aH,aG⟩:=bW.o _ (ϥ hlt2);generalize L[i]=x at *;have aU:=κ (QV (L.take i) sj);generalize bB:(L.take i).foldl RmS.tell1 sj=si at *;have az:=κ bB;clear bB;rw[<-aU.o.tab] at aH;rw[<-aU.o.lanes] at aG;obtain⟨cA,db,dg,au⟩:=N.o;have O:=κ au;have bZ:=κ (aU.o.pub (bn.o.pub bY.o));obtain⟨cq,bw,bt⟩:=au.laneAt aG;have af:=κ (LH au.tab x);have bh:=κ bt;have bi:=κ aG;have aN:=κ aH;rw[aH] at af;simp only[ϰ] at af;have ck:=β11 au.blk;obtain⟨s1,s2,aa⟩:=bc;simp only at af
      have aL:Hid (∀w',ql wr w'->(Instr.lookup 94 (.map (ϊ k.ML)) (ι x) ύ).run prog w'= .ok (γ cq) w'):=κ (λw' m=>by
       have:=xq (O.o.lnm.more m) x ύ;rw[bw] at this
       exact this)
      clear au aG bt aH bw;cases s2 with
      | false=>
       have ae:Hid (si.tell1 x=si):=κ (by unfold RmS.tell1;rw[aN.o];rfl)
       go_wp2_with (go_at_call 64;(go_call af.o as e w5 ⟨rfl,G⟩;have H:=κ G;clear G))
       go_roundw
       case rel=>exact⟨i+1,τ,by go_num,by rw[aB.o,Φ,az.o];show qI w0 _ k (si.tell1 x) _;rw[ae.o];exact N.o.on H.o,ai.o.trans (N.o.stay H.o)⟩
       case measure=>simp[intOf];omega
      | true=>
       obtain⟨bH,aY⟩:=ν (l.wanted);obtain⟨I,aX⟩:=ν (l.cur);obtain⟨bG,bv⟩:=ν (l.tgt);have aA:=κ (λw m=>Xb (bh.o.on (w':=w) m));rw[aY,aX,bv] at aA;have ae:Hid (si.tell1 x=if bH&&jj I then (match qh si.strs (aa,I) with | none=>si | some t=>{si with strs:=qx si.strs (aa,I) {t with askedOf:=ό}}) else si):=κ (by unfold RmS.tell1;rw[aN.o];simp only[bi.o,C1];rw[aY,aX];rfl);clear aY aX bv bh bi;cases bH with
       | false=>
        have am:Hid (si.tell1 x=si):=κ (by rw[ae.o];rfl)
        go_wp2_with (first | (go_at_call 64;(go_call af.o as e w5 ⟨rfl,G⟩;have H:=κ G;have aV:=β12 (qq G O.o.blk);have bb:=aL.o w5 G;clear G)) | (go_at_call 120;(go_call aA.o _ H.o as e w6 ⟨rfl,Y⟩;have ag:=κ Y;clear Y)) | (go_at_call 60;(go_call aP.o _ as e w7 ⟨rfl,rfl⟩)))
        go_roundw
        case rel=>exact⟨i+1,τ,by go_num,by rw[aB.o,Φ,az.o];show qI w0 _ k (si.tell1 x) _;rw[am.o];exact N.o.on ((H.o.trans ag.o).al _),ai.o.trans (N.o.stay ((H.o.trans ag.o).al _))⟩
        case measure=>simp[intOf];omega
       | true=>
        obtain⟨bL,aJ⟩:=ν (jj I);have aP:Hid (∀w,Calls prog 60 #[ι I] w λe w'=>e= .returned (μ bL)/\w'=w):=κ (λw=>by rw[<-aJ];exact Ub I w);rw[aJ] at ae;have cg:=κ aJ;clear aJ;cases bL with
        | false=>
         have am:Hid (si.tell1 x=si):=κ (by rw[ae.o];rfl)
         go_wp2_with (first | (go_at_call 64;(go_call af.o as e w5 ⟨rfl,G⟩;have H:=κ G;have aV:=β12 (qq G O.o.blk);have bb:=aL.o w5 G;clear G)) | (go_at_call 120;(go_call aA.o _ H.o as e w6 ⟨rfl,Y⟩;have ag:=κ Y;clear Y)) | (go_at_call 60;(go_call aP.o _ as e w7 ⟨rfl,rfl⟩)))
         go_roundw
         case rel=>exact⟨i+1,τ,by go_num,by rw[aB.o,Φ,az.o];show qI w0 _ k (si.tell1 x) _;rw[am.o];exact N.o.on ((H.o.trans ag.o).al _),ai.o.trans (N.o.stay ((H.o.trans ag.o).al _))⟩
         case measure=>simp[intOf];omega
        | true=>
         obtain⟨t,J⟩:=Ϯ.1 (bZ.o x _ aN.o rfl I cg.o);have am:Hid (si.tell1 x={si with strs:=qx si.strs (aa,I) {t with askedOf:=ό}}):=κ (by rw[ae.o];simp only[J];rfl);obtain⟨p,cx,dd,ap,bE⟩:=O.o.strAt J;have ce:=κ J;have bk:=κ ap;have bl:=κ bE;clear J ap bE ae
         go_upto_region 14 with (first | (go_at_call 64;(go_call af.o as e w5 ⟨rfl,G⟩;have H:=κ G;have aV:=β12 (qq G O.o.blk);have bb:=aL.o w5 G;clear G)) | (go_at_call 120;(go_call aA.o _ H.o as e w6 ⟨rfl,Y⟩;have ag:=κ Y;clear Y)) | (go_at_call 60;(go_call aP.o _ as e w7 ⟨rfl,cl⟩;obtain rfl:=cl.symm)))
         obtain⟨aj,aF⟩:=ν (w6.alloc (.cells #[ι I,ι bG] 221));have aS:Hid (ql wr aj):=κ (by rw[<-aF];exact(H.o.trans ag.o).al _);have bP:Hid (aj.heap[w6.heap.size]? =ϊ (.cells #[ι I,ι bG] 221 (0,0))):=κ (by rw[<-aF];exact qj w6 _)
         (try rw[aF])
         clear aF aV bb;have cu:=λ(x:qt aj)=>β13 (qq (aS.o.trans x.h) O.o.blk)
         have cw:=λ(x:qt aj)=>β0 (qq x.h bP.o)
         have cv: ∀x:qt aj,(Instr.lookup 95 (.map (ϊ k.MS)) (θ #[ι aa,ι I]) ύ).run prog x.w'= .ok (γ p) x.w':=λx=>by
          have:=ya (O.o.stm.more (aS.o.trans x.h)) (aa,I) ύ;rw[bk.o] at this;exact this
         refine Qn aj 11 12 [9,11] ?_
         refine Qq9 ?_
         (refine Ql ?_;intro K ao)
         refine⟨qk ρ,ao _ _ ?_⟩;clear ao K
         refine Qq1 ?_
         have aC:=κ (aS.o.dr 1);have aK:=κ (qq aC.o bl.o.blk);have cX:=β7 aK.o;have cL:=yw aK.o 7;have bf:=κ ((O.o.on aC.o).strSet (t':={t with askedOf:=ό}) ce.o bk.o (bl.o.on aC.o) (jt.set (S:=λb=>b=p) (jt.refl _ _) (p:=⟨p,7,ϋ⟩) rfl (μ ό)) (qB (qp aK.o 7 _) rfl) rfl)
         (refine Qe ?_;intro K ao)
         refine ao _ _ ?_;clear ao K;refine qA ?_;go_wp2;go_roundw
         case rel=>exact⟨i+1,τ,by go_num,by rw[aB.o,Φ,az.o];show qI w0 _ k (si.tell1 x) _;rw[am.o];exact bf.o.1,ai.o.trans ((N.o.stay aC.o).trans bf.o.2)⟩
         case measure=>simp[intOf];omega
     ·obtain rfl:i=L.length:=by omega
      have cn: ¬(L.length:Int)<(L.length:Int):=by omega
      go_wp2;go_roundw
      case rel=>exact⟨j+1,τ,by go_num,by rw[cf.o,Φ,cd.o];show qI w0 _ k (sj.tellS src) _;rw[bV.o];have:=N.o;rw[Ϩ] at this;exact this.sub (λb d=>ϐ _ d),cj.o.trans (ai.o.sub (λb d=>ϐ _ d))⟩
      case measure=>simp[intOf];omega
   ·obtain rfl:j=A.length:=by omega
    have co: ¬(A.length:Int)<(A.length:Int):=by omega
    go_wp2
    (refine bodyPost_end (v:= .tuple #[]) ?re1 rfl ?_;(case re1=>simp[results,results186,go_sem]))
    exact⟨rfl,by rw[ak.o];have:=ax.o;rw[Ϩ] at this;exact this.sub (λb d=>ϐ _ d),ci.o.trans (aQ.o.sub (λb d=>ϐ _ d))⟩
 ·have ak:Hid (s.tell b={s with cnt:={s.cnt with malf:=s.cnt.malf+1}}):=κ (by unfold RmS.tell;rw[bg.o,Ϗ he]);have cC:(bp != 0)=ό:=by simp[he]
  clear he an
  go_enter func186,ntmps186
  go_upto_region 2 with (go_at_call 240;(go_call ay.o as e w1 ⟨bM,rfl,s1,U⟩;have ac:=κ (aw.o.on U);have aD:=κ (aw.o.stay U);clear s1 U))
  obtain⟨vp,cr,ab⟩:=ac.o.blk;have cF:=β17 ab;have cJ:=yw ab 17;clear ab;have ad:=κ (ac.o.cell 17 (ι (s.cnt.malf+1)) (s':={s with cnt:={s.cnt with malf:=s.cnt.malf+1}}) (λ_ _=>rfl) ⟨rfl,rfl,rfl,rfl,rfl,rfl,rfl,rfl,rfl⟩);go_wp2
  (refine bodyPost_ret (v:= .tuple #[]) ?re2 rfl ?_;(case re2=>simp[results,results186,go_sem]))
  exact⟨rfl,by rw[ak.o];exact ad.o.1,aD.o.trans ad.o.2⟩
end
section
variable {T:Nat->Tg} {w0 w w':World} {k k':RmK} {vp vr vp' vr':Value} {s s':RmS} {F:List Nat} {t1 t2:Tg}
def RmX.own2 (h:RmX T w0 w k vp vr s F) (H:t1≠ .no/\t1≠ .data) (J:t2≠ .no/\t2≠ .data) (a:jt (λb=>T b=t1∨T b=t2) w w')
  (aa:k'.Holds (jZ T t1 w w') w' vp' vr' s' t1) (ab:k'.Holds (jZ T t1 w w') w' vp' vr' s' t2)
  (rest: ∀u,u≠t1->u≠t2->u≠ .no->k.Holds (jZ T t1 w w') w' vp vr s u->k'.Holds (jZ T t1 w w') w' vp' vr' s' u):RmX (jZ T t1 w w') w0 w' k' vp' vr' s' F/\qw F w w':=by
 have I:=h.fresh
 have Y: ∀b,(T b=t1∨T b=t2)->w0.heap.size<=b:=λb d=>h.ge b (by
  rcases d with d | d
  ·rw[d];exact H.1
  ·rw[d];exact J.1)
 refine⟨⟨λu=> ?_,λb d=> ?_,λb d=> ?_,a.to_more h.more Y⟩,a.size,λb d=>a.block b (h.law b d).2.2 (λe=>by
  rcases e with e | e
  ·exact H.1 (by rw[<-e];exact(h.law b d).1)
  ·exact J.1 (by rw[<-e];exact(h.law b d).1))⟩
 ·by_cases e:u=t1
  ·subst e;exact aa
  ·by_cases e2:u=t2
   ·subst e2;exact ab
   ·by_cases en:u= .no
    ·subst en;exact Q9 I a.size
    ·refine rest u e e2 en (Holds.frame (h.all u) a (λb d=>⟨λG=> ?_,λG=> ?_⟩) (λb=>jF I en e b) (λb d=> ?_) en)
     ·rcases d with d | d
      ·exact e (G.symm.trans d)
      ·exact e2 (G.symm.trans d)
     ·rcases d with d | d
      ·exact H.2 (d.symm.trans G)
      ·exact J.2 (d.symm.trans G)
     ·exact(jF I η (C4 H.2) b).2 d
 ·unfold jZ at d;split at d
  ·have:=h.more.size;omega
  ·exact h.ge b d
 ·obtain⟨N,O,U⟩:=h.law b d;refine⟨?_,O,ϗ U a.size⟩;unfold jZ;rw[Ϗ τ];exact N
def VO (H: ∀b,w.heap.size<=b->T b= .no) {t:Tg} (J:t≠ .no) (N: ∀g,v.ownBlock=ϊ g->T g=t) (G:w.heap.size<=W.heap.size) (O:v'.ownBlock=v.ownBlock∨v'.ownBlock=ϊ W.heap.size) (I: ∀g,v'.ownBlock=ϊ g->g<w'.heap.size):
  ∀g,v'.ownBlock=ϊ g->jZ T t w w' g=t:=λg d=>(jd H J g).2 (by
 rcases O with e | e
 ·exact ϑ (N g (by rw[<-e];exact d))
 ·rw[e] at d;injection d with d
  subst d
  exact ϕ ⟨rfl,G,I _ e⟩)
def RmX.pksPut (h:RmX T w0 w k vp vr s F) {y:AcS} (a:jt (λb=>vp.ownBlock=ϊ b∨b=k.R) w w') (Y:w.heap.size<=W.heap.size)
  (row:je 13 RAc (λb=>(T b≠ .data/\T b≠ .pks)/\b<w.heap.size) w' 0 327 v' (s.pks++[y])) (ac:v'.ownBlock=vp.ownBlock∨v'.ownBlock=ϊ W.heap.size)
  (N:w'.heap[k.R]? =ϊ (.cells (zH k v' vr s) 101 (0,0))):qI w0 w' k {s with pks:=s.pks++[y]} F/\qw F w w':=by
 obtain⟨I,_⟩:=h.all .room;obtain⟨_,J⟩:=h.all .pks;have G:=h.fresh;have ab:je 13 RAc (λb=>jZ T .pks w w' b≠ .data/\jZ T .pks w w' b≠ .pks) w' 0 327 v' (s.pks++[y]):=row.other λb d=>by
  by_cases e:b<w.heap.size
  ·refine ϑ ⟨⟨λH=>d.1 ((jF G η η _).2 H),λH=>d.2 ((jd G η _).2 (ϑ H))⟩,e⟩
  ·by_cases e3:b<w'.heap.size
   ·exact ϧ ((jd G η _).2 (ϕ ⟨rfl,τ,e3⟩)) d.2
   ·exact ϕ τ
 obtain⟨x,y⟩:=h.own2 (k':=k) (t1:= .pks) (t2:= .room) (vp':=v') (vr':=vr) (s':={s with pks:=s.pks++[y]}) ⟨η,η⟩ ⟨η,η⟩ (a.mono λb d=>by
   rcases d with d | rfl
   ·exact ϑ (J b d)
   ·exact ϕ I)
  ⟨ab,VO G η J Y ac (λg aa=>row.lt aa)⟩
  ⟨(jF G η η _).2 I,N⟩
  (λu O U ad z=>by cases u<;>first | exact z | exact ϧ rfl O | exact ϧ rfl U)
 exact⟨⟨_,_,_,x⟩,y⟩
def RmX.reqsPut (h:RmX T w0 w k vp vr s F) {y:RqS} (a:jt (λb=>vr.ownBlock=ϊ b∨b=k.R) w w') (Y:w.heap.size<=W.heap.size)
  (row:je 4 RRq (λb=>(T b≠ .data/\T b≠ .reqs)/\b<w.heap.size) w' 0 259 v' (s.reqs++[y])) (ac:v'.ownBlock=vr.ownBlock∨v'.ownBlock=ϊ W.heap.size)
  (N:w'.heap[k.R]? =ϊ (.cells (zH k vp v' s) 101 (0,0))):qI w0 w' k {s with reqs:=s.reqs++[y]} F/\qw F w w':=by
 obtain⟨I,_⟩:=h.all .room;obtain⟨_,J⟩:=h.all .reqs;have G:=h.fresh;have ab:je 4 RRq (λb=>jZ T .reqs w w' b≠ .data/\jZ T .reqs w w' b≠ .reqs) w' 0 259 v' (s.reqs++[y]):=row.other λb d=>by
  by_cases e:b<w.heap.size
  ·refine ϑ ⟨⟨λH=>d.1 ((jF G η η _).2 H),λH=>d.2 ((jd G η _).2 (ϑ H))⟩,e⟩
  ·by_cases e3:b<w'.heap.size
   ·exact ϧ ((jd G η _).2 (ϕ ⟨rfl,τ,e3⟩)) d.2
   ·exact ϕ τ
 obtain⟨x,y⟩:=h.own2 (k':=k) (t1:= .reqs) (t2:= .room) (vp':=vp) (vr':=v') (s':={s with reqs:=s.reqs++[y]}) ⟨η,η⟩ ⟨η,η⟩ (a.mono λb d=>by
   rcases d with d | rfl
   ·exact ϑ (J b d)
   ·exact ϕ I)
  ⟨ab,VO G η J Y ac (λg aa=>row.lt aa)⟩
  ⟨(jF G η η _).2 I,N⟩
  (λu O U ad z=>by cases u<;>first | exact z | exact ϧ rfl O | exact ϧ rfl U)
 exact⟨⟨_,_,_,x⟩,y⟩
def Ns (h:qI w0 w k s F) (sub id:Int):
  Calls prog 245 #[γ k.B,θ #[ι sub,ι id]] w λe w'=>(∃v,e= .returned (ι v))/\qI w0 w' k {s with book:=(vT s.book (sub,id)).1} F/\qw F w w'/\jt (λx=>x=k.b) w w':=by
 obtain⟨T,vp,H,x⟩:=h;refine(Nu x.bok (sub,id)).mono ?_;rintro e w' ⟨rfl,b,a⟩;obtain⟨d,G⟩:=x.book b a;exact⟨⟨_,rfl⟩,d,G,a⟩
end
def Qy {K V:Type} [DecidableEq K] (m:List (K×V)) (k:K) (v u:V):qx (qx m k v) k u=qx m k u:=by
 induction m with
 | nil=>simp[qx]
 | cons p m ih=>
  obtain⟨a,x⟩:=p;by_cases e:k=a
  ·simp[qx,e]
  ·simp[qx,e,ih]
def ZL {K V:Type} [DecidableEq K] (m:List (K×V)) (k:K) (v:V) (h:qh m k=ϊ v):qx m k v=m:=by
 induction m with
 | nil=>cases h
 | cons p m ih=>
  obtain⟨a,x⟩:=p;by_cases e:k=a
  ·simp[qh,e] at h;simp[qx,e,h]
  ·simp[qh,e] at h;simp[qx,e,ih h]
def DT (P:Nat->Prop) (vs ve vp:Value) (p:Pk):Prop:=(p.ss≠[]-> ∀g,vs.ownBlock=ϊ g->P g)/\(p.ex≠[]-> ∀g,ve.ownBlock=ϊ g->P g)/\(p.pl≠[]-> ∀g,vp.ownBlock=ϊ g->P g)
def SlI.stay {k:IntKind} (h:SlI k w v l) (I:l≠[]-> ∀b,v.ownBlock=ϊ b->b∈F) (a:qw F w w'):SlI k w' v l:=by
 obtain⟨O,cap,rfl,d,G,H⟩:=h;refine⟨O,cap,rfl,d,λi hi=> ?_,H⟩;obtain⟨b,off,rfl,N,J⟩:=G i hi;exact⟨b,off,rfl,ϗ N a.1,by rw[World.cell?_of_block (a.2 b (I (λe=>by rw[e] at hi;simp at hi) b rfl))];exact J⟩
def PkS.stay {H G:Value} {p:Pk} (h:PkS w H G vp p) (d:DT (· ∈F) H G vp p) (a:qw F w w'):PkS w' H G vp p:=
 ⟨h.s.stay d.1 a,h.e.stay d.2.1 a,h.l.stay d.2.2 a⟩
section
variable {w0 w w':World} {k:RmK} {s:RmS} {F Fn:List Nat}
def FI (eC:qI w0 w k s (Fn++F)) (dr:zc s) (G o2:Int) {t:zu} (am:qh s.strs (G,o2)=ϊ t) (p:Pk) (bh bf bg:Value) (aW:PkS w bh bf bg p)
  (de:DT (· ∈Fn) bh bf bg p) (df: ∀g∈Fn,g∉F) (dp:U16 p.sq) (dk:xz (yV t p.sq)) (aj:t.any=ό->xz t.great) (dd:xz s.clock) (fE:s.pks.length<=1000000) (eL:0<=s.cnt.acc/\s.cnt.acc<=1000000000) (dl:Byt p.pl) (dm:p.pl.length<=1000000):
  Calls prog 188 #[γ k.R,θ #[ι G,ι o2],(Γq p bh bf bg)] w λe w'=>e= .returned (.tuple #[])/\qI w0 w' k (s.accept (G,o2) p) F/\qw F w w':=by
 obtain⟨w4,bz⟩:=ν (w.alloc (.cells #[ι G,ι o2] 111));obtain⟨W1,bu⟩:=ν (w4.alloc (.cells (Γq p bh bf bg) 133));have bB:ql w w4:=by rw[<-bz];exact ql.alloc _ _
 have ct:ql w4 W1:=by rw[<-bu];exact ql.alloc _ _
 have bk:Hid (W1.heap[w.heap.size]? =ϊ (.cells #[ι G,ι o2] 111 (0,0))):=κ (qq ct (by rw[<-bz];exact qj w _));have aL:Hid (W1.heap[w4.heap.size]? =ϊ (.cells (Γq p bh bf bg) 133 (0,0))):=κ (by rw[<-bu];exact qj w4 _);have bU:=κ (bB.trans ct);obtain⟨T,vp,fh,h⟩:=eC
 have bZ:RmX T w0 W1 k vp fh s ([w.heap.size,w4.heap.size]++(Fn++F)):=h.adds bU.o (λb d=>by
  have eD:=qn bk.o;have eE:=qn aL.o;have:=bB.size;simp at d;rcases d with rfl | rfl
  ·exact⟨ϔ _,eD⟩
  ·exact⟨this,eE⟩)
 have aP:=κ bZ;have em:=κ bB;have ee:Hid (∀b∈Fn,b<w.heap.size):=κ (λb d=>(h.law b (Ω _ d)).2.2);have eo:=κ (h.at.stay bU.o);obtain⟨ab,fn,vb,dn,du⟩:=bZ.strAt am;have aI:=κ dn;have bs:=κ du;have bN:=κ am;have ej:=κ (aW.keep bU.o);have au:=κ de;have ec:=κ df;have bM:=κ dr;have dQ:=λ(x:qt W1)=>β13 (qq x.h aP.o.blk)
 have bS:=λ(x:qt W1)=>qq x.h bk.o
 have aN:=λx=>β0 (bS x);have bE:=λx=>β1 (bS x);clear bS
 have dT: ∀x:qt W1,(Instr.lookup 95 (.map (ϊ k.MS)) (θ #[ι G,ι o2]) ύ).run prog x.w'= .ok (γ ab) x.w':=λx=>by
  have:=ya (aP.o.stm.more x.h) (G,o2) ύ;rw[aI.o] at this;exact this
 obtain⟨cv,ds⟩:=ν (t.any);have aJ:=κ ds;obtain⟨n,cl⟩:=ν (yV t p.sq);have bo:=κ cl;have bL:=κ dk;have ef:=κ aj;have cL:=κ dp;have ea:=κ dd;have cI:=κ (P4 dl dm);rw[cl] at bL;obtain⟨os,an,rfl,eR⟩:=id aW.s;obtain⟨ao,ke,rfl,eM⟩:=id aW.e;obtain⟨ag,af,rfl,eO⟩:=id aW.l;clear dl dm h bZ dn du am aW de df dr ds cl dk aj dp dd bB ct eR eM eO
 go_enter func188,ntmps188
 go_upto_region 1 with fail
 (try rw[bz])
 (try rw[bu])
 clear bz bu;refine qD _ (ql.refl _) ξ ξ ?_
 repeat (go_big_quiet_step (fail))
 refine wpQuiet_nil ?_;intro _ eT;obtain⟨dH,rfl⟩:=eT;obtain⟨W2,ce⟩:=ν (dH.w');have ax:Hid (ql W1 W2):=κ (by rw[<-ce];exact dH.h);rw[ce];clear ce dQ aN bE dT;have cu:=β2 (qq ax.o aL.o);have t1:=β1 (qq ax.o bs.o.blk);have t2:=β2 (qq ax.o bs.o.blk);rw[aJ.o] at t1
 go_upto_if 28 with (go_at_call 243;(go_call Wa p.sq cL.o _ as e fT ⟨rfl,ew⟩;obtain rfl:=ew))
 go_cut [7] from 29 (λv ah=>v= ι n/\ql W2 ah)
 case first=>
  cases cv with
  | false=>
   go_wp2;go_meet;exact⟨by rw[<-bo.o];unfold yV;rw[aJ.o];rfl,ql.refl _⟩
  | true=>
   have fl:=λ(x:qt W2)=>β2 (qq (ax.o.trans x.h) aL.o)
   have fk:=λ(x:qt W2)=>β2 (qq (ax.o.trans x.h) bs.o.blk)
   go_upto_region 4 with fail
   refine Qn W2 9 9 [7] ?_
   refine Qq7 ?_
   (refine Ql ?_;intro K H)
   go_call Wm t.great p.sq (ef.o aJ.o) cL.o _ as e w5 ⟨rfl,rfl⟩;refine⟨_,rfl,qk ρ,H _ _ ?_⟩;clear H K
   refine Qq1 ?_
   refine qA ?_;go_wp2;go_meet;exact⟨by rw[<-bo.o];unfold yV;rw[aJ.o];rfl,ρ⟩
 case rest=>
 obtain⟨rfl,az⟩:=hcut;obtain⟨bm,cb⟩:=ν ([w.heap.size,w4.heap.size]++(Fn++F));rw[cb] at aP;have av:=κ cb;have cR:=κ (aP.o.on (ax.o.trans az));have aQ:=κ (bs.o.on (ax.o.trans az));have en:=κ (aP.o.at.stay (ax.o.trans az));clear az cu t1 t2 cb;have t1:=β1 aQ.o.blk;have t2:=β2 aQ.o.blk;have fC:=yw aQ.o.blk 2;rw[aJ.o] at t1;obtain⟨c,dc⟩: ∃c:Bool,(!cv||decide (t.great<n))=c:=⟨_,rfl⟩;have bH:=κ dc;clear dc
 go_upto_region 5 with fail
 go_cut [49] from 50 (λv ah=>v= μ c/\ah=wc)
 case first=>
  cases cv with
  | false=>
   go_wp2;go_meet;exact⟨by rw[<-bH.o];rfl,rfl⟩
  | true=>
   go_wp2;go_meet;exact⟨by rw[<-bH.o];rfl,rfl⟩
 case rest=>
 obtain⟨rfl,ex⟩:=hcut;obtain rfl:=ex.symm
 go_upto_if 49 with fail
 obtain⟨fu,eH⟩:=ν (wc);subst eH;obtain⟨aU,dj⟩:=ν ((if c then n else t.great));have bK:=κ dj;clear dj
 go_cut [] from 50 (λah=>qI w0 ah k {s with strs:=qx s.strs (G,o2) {t with great:=aU}} bm/\qw bm wc ah)
 case first=>
  cases c with
  | false=>
   have bI:Hid ({s with strs:=qx s.strs (G,o2) {t with great:=aU}}=s):=κ (by rw[<-bK.o];show {s with strs:=qx s.strs (G,o2) t}=s;rw[ZL _ _ _ bN.o]);go_wp2;go_meet;exact⟨by rw[bI.o];exact cR.o.at,qw.refl _ _⟩
  | true=>
   have ar:=κ (cR.o.strSet (t':={t with great:=aU}) bN.o aI.o aQ.o (jt.set (S:=λb=>b=ab) (jt.refl _ _) (p:=⟨ab,2,ϋ⟩) rfl (ι n)) (qB (qp aQ.o.blk 2 _) (by rw[<-bK.o];rfl)) rfl);go_wp2;go_meet;exact ar.o
 case rest=>
 obtain⟨ca,be⟩:=hcut;have cV:=κ (en.o.trans be);obtain⟨ft,fO,fS,cw⟩:=ca;obtain⟨eZ,fo,fJ,bv,aZ⟩:=cw.strAt (o:=(G,o2)) (xD _ _ _);obtain rfl:ab=eZ:=by rw[aI.o] at bv;injection bv
 have es:=β1 aZ.blk;have ey:=yw aZ.blk 1;have Y:=κ (cw.strSet (t':={t with great:=aU,any:=ό}) (xD _ _ _) bv aZ (jt.set (S:=λb=>b=ab) (jt.refl _ _) (p:=⟨ab,1,ϋ⟩) rfl (μ ό)) (qB (qp aZ.blk 1 _) rfl) rfl);simp only[Qy] at Y;obtain⟨t2,cq⟩: ∃t2:zu,{t with great:=aU,any:=ό}=t2:=⟨_,rfl⟩;have cQ:=κ cq;clear be cw bv aZ
 go_upto_region 8 with fail
 obtain⟨W7,cf⟩:=ν (wc.setCell ⟨ab,1,ϋ⟩ (μ ό));rw[cf] at Y
 (try rw[cf])
 clear cf es ey;have dW:Hid (qI w0 W7 k {s with strs:=qx s.strs (G,o2) t2} bm):=κ (by rw[<-cq];exact Y.o.1);have ak:=κ (cV.o.trans Y.o.2);clear cq Y cV;obtain⟨fs,ff,fi,aC⟩:=dW.o;obtain⟨N,_,J,rfl,rfl,_⟩:=(aC.all .pks).1.shape;have bR:=κ aC;have bY:=β14 aC.blk;clear aC
 go_upto_region 9 with fail
 clear bY;have cJ:=κ (ej.o.stay (F:=bm) ⟨λI g aj=>by rw[<-av.o];exact ϐ _ (Ω _ (au.o.1 I g aj)),λI g aj=>by rw[<-av.o];exact ϐ _ (Ω _ (au.o.2.1 I g aj)),λI g aj=>by rw[<-av.o];exact ϐ _ (Ω _ (au.o.2.2 I g aj))⟩ ak.o);have ed:Hid (∀b∈Fn,b<w.heap.size):=κ ee.o
 obtain⟨ae,dG,cY,_⟩:=(bR.o.sub (F':=[w.heap.size,w4.heap.size]++F) (λb d=>by
  rw[<-av.o];rcases Ϫ.1 d with e | e
  ·exact Ω _ e
  ·exact ϐ _ (ϐ _ e))).data (λb=>b∈Fn) (λb d=>by
   obtain⟨fd,cu,fe⟩:=bR.o.law b (by rw[<-av.o];exact ϐ _ (Ω _ d));refine⟨fd,cu,fe,λeI=> ?_⟩;rcases Ϫ.1 eI with e | e
   ·have fU:=ed.o b d;have fV:=em.o.size;simp at e;omega
   ·exact ec.o b d e)
 have U:=κ dG;have bq:=κ cY;clear dG cY bR;have dK:=κ (ak.o.blk (by rw[<-av.o];simp) bk.o);have dM:=κ (ak.o.blk (by rw[<-av.o];simp) aL.o);obtain⟨_,dt⟩:=U.o.all .pks;have aO:=κ dt;clear dt;have aK: ¬(δ N s.pks.length J).ownBlock=ϊ k.R:=λe=>by have:=aO.o _ e;rw[(U.o.all .room).1] at this;cases this
 have dw: ¬(δ N s.pks.length J).ownBlock=ϊ w.heap.size:=λe=>by have:=aO.o _ e;rw[(U.o.law w.heap.size η).1] at this;cases this
 have dx: ¬(δ N s.pks.length J).ownBlock=ϊ w4.heap.size:=λe=>by have:=aO.o _ e;rw[(U.o.law w4.heap.size η).1] at this;cases this
 have dR:=λ(x:qz (λb=>(δ N s.pks.length J).ownBlock=ϊ b) W7)=>β14 (x.h.blk U.o.blk aK)
 have bT:=λ(x:qz (λb=>(δ N s.pks.length J).ownBlock=ϊ b) W7)=>x.h.blk dK.o dw
 have aN:=λx=>β0 (bT x);have bE:=λx=>β1 (bT x);clear bT
 have cE: ∀x:qz (λb=>(δ N s.pks.length J).ownBlock=ϊ b) W7,x.w'.rangeAt w4.heap.size 0 (Γh p os an ao ke ag af):=λx=>xy (x.h.blk dM.o dx)
 obtain⟨eX,hi,eU,eV,eW⟩:=info_parts (P:=prog) (e:=327) (z:= θ #[ι 0,ι 0,ι 0,ύ,υ 0,φ 0,ω 0,ω 0,(),ύ,φ 0,(),()]) (size:=13) (bytes:=120) ξ;refine QN (λb=>(δ N s.pks.length J).ownBlock=ϊ b) W7 13 14 [9,10,11,13] ?_
 refine Qs7 ?_
 refine jh rfl rfl (qi σ) 133 (.tmp 5) rfl w4.heap.size 0 rfl (Γh p os an ao ke ag af) _ (λw' aa=>by obtain⟨x,rfl⟩:=aa;exact cE x) underlying133 rfl ξ ?_;intro K H;go_simp;refine H _ ?_;clear H K dR aN bE cE
 refine Qs1 ?_
 (refine Ql ?_;intro K H)
 refine⟨qi (((jt.refl _ W7).drewN 1).alc _),H _ _ ?_⟩;clear H K;have cr: ∀g,(δ N s.pks.length J).ownBlock=ϊ g->ae g= .pks:=aO.o;have dC:=(((U.o.all .pks).1.on (ql.drewN W7 1)).on (ql.alloc _ (.cells (Γi G o2 n p os an ao ke ag af) 327))).other (D':=λb=>(ae b≠ .data/\ae b≠ .pks)/\b<W7.heap.size) (λb d=>ϑ d.1);have bC:=(cJ.o.keep (ql.drewN W7 1)).keep (ql.alloc _ (.cells (Γi G o2 n p os an ao ke ag af) 327));have dB:jw RAc (λb=>((ae b≠ .data/\ae b≠ .pks)/\b<W7.heap.size)∨(δ N s.pks.length J).ownBlock=ϊ b) ((W7.drewN 1).alloc (.cells (Γi G o2 n p os an ao ke ag af) 327)) (Γi G o2 n p os an ao ke ag af) ⟨(G,o2),n,p⟩:=λw' a=>by
  have cn: ∀g,g∈Fn-> ¬(((ae g≠ .data/\ae g≠ .pks)/\g<W7.heap.size)∨(δ N s.pks.length J).ownBlock=ϊ g):=λg aj aa=>by
   have e:=bq.o g aj;rcases aa with aa | aa
   ·exact aa.1.1 e
   ·rw[cr g aa] at e;cases e
  exact⟨_,_,_,rfl,bC.s.off2 (λI b d=>cn b (au.o.1 I b d)) a,bC.e.off2 (λI b d=>cn b (au.o.2.1 I b d)) a,bC.l.off2 (λI b d=>cn b (au.o.2.2 I b d)) a⟩
 refine jR rfl rfl ?_;intro K H
 refine zK (.tmp 66) (.tmp 71) 96 rfl 0 327 eX (θ #[ι 0,ι 0,ι 0,ύ,υ 0,φ 0,ω 0,ω 0,(),ύ,φ 0,(),()]) 13 120 underlying96 hi eU eV eW rfl ζ _ s.pks rfl dC W7.heap.size (Γi G o2 n p os an ao ke ag af) ⟨(G,o2),n,p⟩ rfl rfl (kX rfl) X8 dB (λb d=>by
  have:=d.2;have:=(((ql.drewN W7 1)).al (.cells (Γi G o2 n p os an ao ke ag af) 327)).size
  omega) ζ τ (ϫ _) ?_
 intro fH w6 cm di db;have aD:Hid (jt (λb=>(δ N s.pks.length J).ownBlock=ϊ b) W7 w6):=κ ((((jt.refl _ W7).drewN 1).alc _).trans (jt.of_grown di));obtain⟨bc,bb,aT,rfl,eP,eQ⟩:=cm.shape;have bl:=κ (aD.o.blk U.o.blk aK);have eG:=U.o.lt;have cx:(ae k.R≠ .data/\ae k.R≠ .pks)/\k.R<W7.heap.size:=⟨by rw[(U.o.all .room).1];exact⟨η,η⟩,eG⟩;have bn:=κ (U.o.pksPut (y:=⟨(G,o2),n,p⟩) ((aD.o.mono (S':=λb=>(δ N s.pks.length J).ownBlock=ϊ b∨b=k.R) (λb d=>ϑ d)).set (p:=⟨k.R,14,ϋ⟩) (ϕ rfl) (δ bc bb aT)) (((ql.drewN W7 1)).al (.cells (Γi G o2 n p os an ao ke ag af) 327)).size (cm.step (jt.set (S:=λb=>(ae b≠ .data/\ae b≠ .pks)/\b<W7.heap.size) (jt.refl _ _) (p:=⟨k.R,14,ϋ⟩) cx (δ bc bb aT))) db (qB (qp bl.o 14 _) rfl));have bY:w6.cell? ⟨k.R,14,ϋ⟩=ϊ (δ N s.pks.length J):=qa bl.o 14 rfl;have ez:w6.frozen? ⟨k.R,14,ϋ⟩=ύ:=yw bl.o 14;clear cm di db dC dB bC eP eQ;refine⟨qi aD.o,H _ _ ?_⟩;clear H K;go_simp
 (refine Ql ?_;intro K H)
 refine⟨qi aD.o,H _ _ ?_⟩;clear H K
 iterate 1 (refine qE rfl rfl (qi aD.o) ?_;intro K H;go_big_quiet_op;go_big_quiet_on)
 (refine Qe ?_;intro K H)
 refine H _ _ ?_;clear H K;refine qA ?_
 have cG:Hid (SlI .u8 (w6.setCell ⟨k.R,14,ϋ⟩ (δ bc bb aT)) (δ ag p.pl.length af) p.pl):=κ (cJ.o.l.off2 (D:=λb=>(δ N s.pks.length J).ownBlock=ϊ b∨b=k.R) (λI b d aa=>by
  have e:=bq.o b (au.o.2.2 I b d);rcases aa with aa | aa
  ·rw[cr b aa] at e;cases e
  ·rw[aa,(U.o.all .room).1] at e;cases e) ((aD.o.mono (S':=λb=>(δ N s.pks.length J).ownBlock=ϊ b∨b=k.R) (λb d=>ϑ d)).set (p:=⟨k.R,14,ϋ⟩) (ϕ rfl) (δ bc bb aT)))
 have cT:Hid (p.pl≠[]-> ∀b,(δ ag p.pl.length af).ownBlock=ϊ b->b≠k.b/\b≠k.R):=κ (λI b d=>by
  have e:=bq.o b (au.o.2.2 I b d);refine⟨λx=> ?_,λx=> ?_⟩
  ·rw[x,(U.o.all .book).2.1] at e;cases e
  ·rw[x,(U.o.all .room).1] at e;cases e)
 obtain⟨cW,cg⟩:=ν (w6.setCell ⟨k.R,14,ϋ⟩ (δ bc bb aT));rw[cg] at cG bn
 have bV:Hid (qw ([w.heap.size,w4.heap.size]++F) W1 cW):=κ ((ak.o.sub (λb d=>by
  rw[<-av.o];rcases Ϫ.1 d with e | e
  ·exact Ω _ e
  ·exact ϐ _ (ϐ _ e))).trans bn.o.2)
 have cz:=κ bn.o.1;obtain⟨fN,fR,bD⟩:=cz.o.blk;have ev:=β20 bD;have eA:=yw bD 20;obtain⟨fw,fx⟩:=eL;clear bD bY ez aK dw dx cr bq aO U aD bl bn cx;have ar:=κ (cz.o.cell 20 (ι (s.cnt.acc+1)) (s':={s with strs:=qx s.strs (G,o2) t2,pks:=s.pks++[⟨(G,o2),n,p⟩],cnt:={s.cnt with acc:=s.cnt.acc+1}}) (λ_ _=>rfl) ⟨rfl,rfl,rfl,rfl,rfl,rfl,rfl,rfl,rfl⟩);have cH:=κ (cG.o.off2 (λI b d=>(cT.o I b d).2) (jt.set (S:=λb=>b=k.R) (jt.refl _ _) (p:=⟨k.R,20,ϋ⟩) rfl (ι (s.cnt.acc+1))))
 go_upto_region 10 with fail
 (try rw[cg])
 clear cg
 go_upto_region 11 with fail
 obtain⟨aG,ch⟩:=ν (cW.setCell ⟨k.R,20,ϋ⟩ (ι (s.cnt.acc+1)));rw[ch] at ar cH
 (try rw[ch])
 clear ch ev eA;obtain⟨id,cj⟩: ∃id:Int,(s.pks.length:Int)=id:=⟨_,rfl⟩;have cF:=κ cj
 (try rw[cj])
 clear cj;obtain⟨ap,cc⟩:=ν ([w.heap.size,w4.heap.size]++F);have aE:=κ cc;rw[cc] at ar bV;obtain⟨ad,aY⟩: ∃ad:RmS,{s with strs:=qx s.strs (G,o2) t2,pks:=s.pks++[⟨(G,o2),n,p⟩],cnt:={s.cnt with acc:=s.cnt.acc+1}}=ad:=⟨_,rfl⟩;have ek:=κ aY;rw[aY] at ar;have dX:=κ ar.o.1;have bW:=κ (bV.o.trans ar.o.2);have cN:Hid (zc ad):=κ (by rw[<-aY];exact⟨bM.o.keys,bM.o.lane,bM.o.few⟩);have bO:Hid (ad.tab=s.tab/\ad.book=s.book/\ad.clock=s.clock/\qh ad.strs (G,o2)=ϊ t2):=κ (by rw[<-aY];exact⟨rfl,rfl,rfl,xD _ _ _⟩);clear aY cc ar bV;obtain⟨fq,fL,fP,dE⟩:=dX.o;have br:=κ dE;have dL:=κ (bW.o.blk (by rw[<-aE.o];simp) bk.o);have dN:=κ (bW.o.blk (by rw[<-aE.o];simp) aL.o);have dP:=λ(x:qt aG)=>β11 (qq x.h br.o.blk)
 have aN:=λ(x:qt aG)=>β0 (qq x.h dL.o)
 obtain⟨L,cd⟩:=ν (prR (j8 G) ad.tab.u);have eg:=κ cd;have cP:=κ (λw m=>Hk (br.o.tab.more (w':=w) m) G cN.o.keys cN.o.few);rw[cd] at cP;clear cd dE;refine Qn aG 8 8 [6] ?_
 refine Qq6 ?_
 (refine Ql ?_;intro K H)
 go_call cP.o _ (ql.drewN aG 1) as e bi ⟨⟨v3,rfl,dD,n3⟩,az⟩;obtain⟨fF,fB,aq,rfl,fD,dF,dq⟩:=(br.o.on (ql.drewN aG 1)).ints az dD n3;have aR:Hid (ql aG bi):=κ ((ql.drewN aG 1).trans az);have cM:=κ dq;have dV:=κ dF.at;have ep:=κ (bW.o.trans (br.o.at.stay aR.o));have eh:=κ (cH.o.keep aR.o);clear az dD n3 dF dq;refine⟨_,rfl,qk aR.o,H _ _ ?_⟩;clear H K
 iterate 1 (refine qE rfl rfl (qk aR.o) ?_;intro K H;go_big_quiet_op;go_big_quiet_on)
 refine qA ?_;clear dP aN;go_wp2
 go_loopw [93] (λaH wr=> ∃j:Nat,j<=L.length/\aH= ι j/\qI w0 wr k {ad with book:=Ji ad.book (L.take j) id} (aq++ap)/\qw (aq++ap) bi wr/\jt (λb=>b=k.b) bi wr) (λaH _=>L.length-(intOf aH).toNat)
 case atStart=>exact⟨0,τ,rfl,dV.o,qw.refl _ _,jt.refl _ _⟩
 case round=>
  obtain⟨j,eN,rfl,aX,am,cZ⟩:=hrel;have ai:=κ aX;have aw:=κ am;have cA:=κ cZ;clear aX am cZ;by_cases hlt:j<L.length
  ·have ck:(j:Int)<(L.length:Int):=by omega
   obtain⟨et,off,rfl,eK⟩:=cM.o wr (λb d=>aw.o.2 b (by simp[d])) j hlt;have bP:Hid (L.take (j+1)=L.take j++[L[j]]):=κ (by rw[B9,ϖ hlt];rfl);generalize L[j]=x at *;obtain⟨fg,fj,aM⟩:=ai.o.blk;have eu:=β0 aM;clear aM
   go_wp2_with (go_at_call 245;(go_call Ns ai.o x id as e w7 ⟨⟨fI,rfl⟩,aV,bd,bt⟩;have Y:=κ aV;have ak:=κ bd;have dJ:=κ bt;clear aV bd bt))
   go_roundw
   case rel=>exact⟨j+1,τ,by go_num,by have:=Y.o;unfold Ji at this ⊢;rw[bP.o,Φ];exact this,aw.o.trans ak.o,cA.o.trans dJ.o⟩
   case measure=>simp[intOf];omega
  ·obtain rfl:j=L.length:=by omega
   have ck: ¬(L.length:Int)<(L.length:Int):=by omega
   rw[Ϩ] at ai;have dO:=κ (β9 (aw.o.blk (b:=w4.heap.size) (by simp[<-aE.o]) (qq aR.o dN.o)));have fc:=dO.o;have ei:=κ (eh.o.off2 (λI b d=>(cT.o I b d).1) cA.o);obtain⟨cX,ci⟩:=ν (zJ p.pl);have cB:=κ (Jg _ p.pl wr ei.o cI.o.1 cI.o.2);rw[ci] at cB;have dZ:=κ ci;clear ci
   go_upto_if 109 with (go_at_call 190;(go_call cB.o as e w7 ⟨rfl,dv⟩;have cS:=κ dv;clear dv))
   have Y:=κ (ai.o.on cS.o);have eq:=κ (aw.o.trans (ai.o.stay cS.o));obtain⟨O,bx⟩: ∃O:RmS,{ad with book:=Ji ad.book L id}=O:=⟨_,rfl⟩;have el:=κ bx;rw[bx] at Y;have bp:Hid (qh O.strs (G,o2)=ϊ t2/\O.clock=s.clock):=κ (by rw[<-bx];exact⟨bO.o.2.2.2,bO.o.2.2.1⟩);obtain⟨aS,da⟩:=ν ((if cX then ύ else t2.askedOf));have bG:=κ da;obtain⟨ak,ff,fi,aC⟩:=Y.o;obtain⟨fa,fp,fK,bw,ba⟩:=aC.strAt bp.o.1;obtain rfl:ab=fa:=by rw[aI.o] at bw;injection bw
   have eY:=β7 ba.blk;have eB:=yw ba.blk 7;have dY:=κ (aC.strSet (t':={t2 with askedOf:=ύ}) bp.o.1 bw ba (jt.set (S:=λb=>b=ab) (jt.refl _ _) (p:=⟨ab,7,ϋ⟩) rfl (μ ύ)) (qB (qp ba.blk 7 _) rfl) rfl);clear bx da aC bw ba fc
   go_cut [] from 110 (λah=>qI w0 ah k {O with strs:=qx O.strs (G,o2) {t2 with askedOf:=aS}} (aq++ap)/\qw (aq++ap) w7 ah)
   case first=>
    cases cX with
    | false=>
     have bI:Hid ({O with strs:=qx O.strs (G,o2) {t2 with askedOf:=aS}}=O):=κ (by rw[<-bG.o];show {O with strs:=qx O.strs (G,o2) t2}=O;rw[ZL _ _ _ bp.o.1]);go_wp2;go_meet;exact⟨by rw[bI.o];exact Y.o,qw.refl _ _⟩
    | true=>
     obtain rfl:ύ=aS:=bG.o;go_wp2;go_meet;exact dY.o
   case rest=>
   obtain⟨ca,be⟩:=hcut;have er:=κ (eq.o.trans be);obtain⟨fr,fM,fQ,bj⟩:=ca;have bQ:=κ bj;obtain⟨fb,ay,aB,co,bA⟩:=bj.strAt (o:=(G,o2)) (xD _ _ _);obtain rfl:ab=fb:=by rw[aI.o] at co;injection co
   have aF:=κ bA;have dy:k.R≠ay:=λe=>by have:=bA.nb;rw[<-e,(bj.all .room).1] at this;cases this
   have dz: ¬aB.ownBlock=ϊ k.R:=λe=>by have:=(bA.nv _ e).1;rw[(bj.all .room).1] at this;cases this
   have aK: ¬(k.R=ay∨aB.ownBlock=ϊ k.R):=λe=>e.elim dy dz
   have dA: ¬(ab=ay∨aB.ownBlock=ϊ ab):=λe=>e.elim (λe=>aF.o.ne e) (λe=>(aF.o.nv _ e).2 rfl)
   have eb:Hid (O.clock=s.clock):=κ bp.o.2;have dS: ∀x:qz (λb=>b=ay∨aB.ownBlock=ϊ b) wc,x.w'.cell? ⟨k.R,9,ϋ⟩=ϊ (ι s.clock):=λx=>by rw[<-eb.o];exact qa (x.h.blk bQ.o.blk aK) 9 rfl
   have dU:=λ(x:qz (λb=>b=ay∨aB.ownBlock=ϊ b) wc)=>β0 (x.h.blk aF.o.blk dA)
   clear be bj co bA eY eB dy dz;obtain⟨ac,dg⟩:=ν ((jP t2.buf n s.clock id).2);have cC:=κ dg;clear dg
   go_upto_region 20 with fail
   refine QN (λb=>b=ay∨aB.ownBlock=ϊ b) wc 11 11 [10] ?_
   refine Nx ?_
   (refine Ql ?_;intro K H)
   have cK:=κ (CG t2.buf aF.o.ok ay aB n s.clock id bL.o _ (aF.o.buf.on (ql.drewN wc 1)));rw[cC.o] at cK
   (with_reducible refine cK.o.mono ?_)
   rintro e w14 ⟨rfl,fG,st⟩;have dI:Hid (jt (λb=>b=ay∨aB.ownBlock=ϊ b) wc w14):=κ (((jt.refl _ wc).drewN 1).trans st.away);have bF:=κ ((bQ.o.on (ql.drewN wc 1)).strBuf (xD _ _ _) aI.o (aF.o.on (ql.drewN wc 1)) st (Eu aF.o.ok bL.o ea.o));simp only[Qy] at bF;have cU:=κ (er.o.trans ((bQ.o.at.stay (ql.drewN wc 1)).trans bF.o.2));clear st;refine⟨_,rfl,qi dI.o,H _ _ ?_⟩;clear H K dS dU aK dA;refine qA ?_;obtain⟨aA,cp⟩: ∃aA:RmS,{O with strs:=qx O.strs (G,o2) {t2 with buf:=(jP t2.buf n s.clock id).1,askedOf:=aS}}=aA:=⟨_,rfl⟩
   have cD:Hid (∀bX,(if yY ac=0 then aA.book else xG aA.book L id (yY ac))=bX->s.accept (G,o2) p={aA with book:=bX}):=κ (by
    intro bX eJ;have eS:Ye t p s.clock s.pks.length={t2 with buf:=(jP t2.buf n s.clock id).1,askedOf:=aS}:=by
     unfold Ye;rw[bo.o,<-bG.o,<-cQ.o,<-dZ.o,<-cF.o,<-bK.o,<-bH.o,<-aJ.o];cases t.any<;>simp
    have d:t2.buf=t.buf:=by rw[<-cQ.o]
    have eF:prR (j8 G) s.tab.u=L:=by rw[<-eg.o,bO.o.1]
    rw[<-eJ,<-cp,<-el.o,<-ek.o];unfold RmS.accept;rw[bN.o];simp only[Qy]
    rw[eS,bo.o,eF,cF.o,<-d,cC.o])
   have cO:Hid (∀w',qw (aq++ap) bi w'->qw F w w'):=κ (λw' h=>(eo.o.sub (F':=F) (λb d=>ϐ _ d)).trans (((ep.o.sub (F':=F) (λb d=>by rw[<-aE.o];exact ϐ _ d))).trans (h.sub (λb d=>by rw[<-aE.o];simp[d]))));have cy:Hid (qI w0 w14 k aA (aq++ap)):=κ (by rw[<-cp];exact bF.o.1);clear cp
   go_upto_block 2 with fail
   go_cut [12] from 124 to 129 (λv ah=>v= ι (yY ac)/\yY ac≠0/\ah=w14)
   case first=>
    by_cases e10:ac=10
    ·subst e10;go_wp2;go_meet;exact⟨rfl,ζ,rfl⟩
    ·by_cases e9:ac=9
     ·subst e9;go_wp2;go_meet;exact⟨rfl,ζ,rfl⟩
     ·by_cases e8:ac=8
      ·subst e8;go_wp2;go_meet;exact⟨rfl,ζ,rfl⟩
      ·have fy:(ac==10)=ύ:=by simp[e10]
       have fA:(ac==9)=ύ:=by simp[e9]
       have fz:(ac==8)=ύ:=by simp[e8]
       have bJ:Hid (yY ac=0):=κ (by unfold yY;rw[Ϗ e10,Ϗ e9,Ϗ e8]);clear e10 e9 e8;go_wp2
       (refine bodyPost_ret (v:= .tuple #[]) ?re2 rfl ?_;(case re2=>simp[results,results188,go_sem]))
       exact⟨rfl,by rw[cD.o _ rfl,ϓ bJ.o];exact(cy.o.sub (λb d=>ϐ _ d)).sub (λb d=>by rw[<-aE.o];exact ϐ _ d),cO.o _ cU.o⟩
   case rest=>
   obtain⟨rfl,dh,rfl⟩:=hcut;have bJ:=κ dh;clear dh;generalize yY ac=fv at *;go_wp2
   go_loopw [132] (λaH wr=> ∃j:Nat,j<=L.length/\aH= ι j/\qI w0 wr k {aA with book:=xG aA.book (L.take j) id fv} (aq++ap)/\qw (aq++ap) bi wr) (λaH _=>L.length-(intOf aH).toNat)
   case atStart=>exact⟨0,τ,rfl,cy.o,cU.o⟩
   case round=>
    obtain⟨j,eN,rfl,aX,am⟩:=hrel;have ai:=κ aX;have aw:=κ am;clear aX am;by_cases hlt:j<L.length
    ·have ck:(j:Int)<(L.length:Int):=by omega
     obtain⟨et,off,rfl,eK⟩:=cM.o wr (λb d=>aw.o.2 b (by simp[d])) j hlt;have bP:Hid (L.take (j+1)=L.take j++[L[j]]):=κ (by rw[B9,ϖ hlt];rfl);generalize L[j]=x at *;obtain⟨fg,fj,aM⟩:=ai.o.blk;have eu:=β0 aM;clear aM
     go_wp2_with (go_at_call 178;(go_call Xt ai.o x id fv as e w7 ⟨rfl,aV,bd,bt⟩;have Y:=κ aV;have ak:=κ bd;clear aV bd bt))
     go_roundw
     case rel=>exact⟨j+1,τ,by go_num,by have:=Y.o;unfold xG at this ⊢;rw[bP.o,Φ];exact this,aw.o.trans ak.o⟩
     case measure=>simp[intOf];omega
    ·obtain rfl:j=L.length:=by omega
     have ck: ¬(L.length:Int)<(L.length:Int):=by omega
     rw[Ϩ] at ai;go_wp2
     (refine bodyPost_end (v:= .tuple #[]) ?re1 rfl ?_;(case re1=>simp[results,results188,go_sem]))
     exact⟨rfl,by rw[cD.o _ rfl,Ϗ bJ.o];exact(ai.o.sub (λb d=>ϐ _ d)).sub (λb d=>by rw[<-aE.o];exact ϐ _ d),cO.o _ aw.o⟩
end
def SmS (s:RdS):Prop:=Byt s.1/\s.1.length<=200
def SmS.tk {s:RdS} (h:SmS s) (n:Int):SmS (tkS s n):=⟨h.1.drop _,ϙ (uN s n) h.2⟩
def SmS.wr {s:RdS} (h:SmS s) (x:Int):SmS (wrS s x):=⟨by unfold wrS;split;exact h.1;exact xh,ϙ (vH s x) h.2⟩
def SmS.ss: ∀(n:Nat) {s:RdS},SmS s->SmS (j9 n s).2
 | 0,_,h=>h
 | n+1,_,h=>(SmS.ss n h).tk 4
def Kh (N:Byt b) (O: ¬(200:Int)<b.length):U16 (jl b).1.sq/\Byt (jl b).1.pl/\(jl b).1.pl.length<=200:=by
 have G:SmS (b,0):=⟨N,by show b.length<=200;omega⟩;have I:SmS (s5H b):=((((G.tk 1).tk 1).tk 2).tk 4).tk 4;have J:SmS (yy (fH b) (s5H b)):=by
  unfold yy;split
  ·exact I.wr 2
  ·exact I
 have d:SmS (yj (fH b) (yy (fH b) (s5H b))).2:=by
  unfold yj;split
  ·exact(((SmS.ss _ J).tk 2).tk 2).tk _
  ·exact SmS.ss _ J
 unfold jl;rw[Ϗ O];unfold JJ;split
 ·refine⟨?_, ?_⟩
  ·have H:=JH (s:=s2H b) ((G.tk 1).tk 1).1 2 ζ;exact⟨H.1,by have:=H.2;show num (tkB (s2H b).1 ((2:Nat):Int))<=65535;omega⟩
  ·show Byt (vB _ _).1/\(vB _ _).1.length<=200;unfold vB;split
   ·exact⟨xh,η⟩
   ·split
    ·split
     ·unfold xL;split
      ·exact⟨xh,η⟩
      ·split
       ·exact⟨xh,η⟩
       ·exact⟨d.1.take _,by simp only[Ϥ];have:=d.2;omega⟩
     ·exact⟨xh,η⟩
    ·exact d
 ·exact⟨⟨O4 0,by show (0:Int)<=65535;omega⟩,xh,ϫ _⟩
def IR (b:List Int):Zd b=Ve b:=by
 unfold Zd Ve;rw[Bool.and_assoc]
def My (h:RmX T w0 w k vp vr s F) (ai:s.queue=b::q):
  Calls prog 184 #[γ k.RQ] w λe w'=> ∃d G,e= .returned (.tuple #[δ d b.length G,ό])/\SlI .u8 w' (δ d b.length G) b/\qI w0 w' k {s with queue:=q} F/\qw F w w':=by
 obtain⟨f,Q,aa,ad,U,Y,css,g,a⟩:=h.que;obtain⟨t1,t2,_⟩:=h.all .queue;rw[ai] at a
 match Q,a with
 | c::Q,a=>
  obtain⟨J,ab⟩:=a;have ac:=J;obtain⟨v,rfl,⟨d,G,rfl,_⟩,H⟩:=J.read;refine(MY w _ _ _ f d _ G Q aa ad U Y css g).mono ?_;rintro e w' ⟨rfl,⟨ae,g'⟩,O⟩;have N:jt (λb=>T b≠ .data) w w':=O.mono λb H=>by
   rcases H with rfl | rfl
   ·rw[t1];simp
   ·rw[t2];simp
  obtain⟨af,ag⟩:=h.ring (q:=q) O (λD ah=>⟨_,Q,aa,ae,U,Y,_,g',ab.mono λc y aj=>(aj.step N).other λb H=>(ah b H).elim ϑ (λx=>ϑ (by rw[h.fresh b x];simp))⟩);obtain⟨ak,I,s2,_⟩:=ac w' N;injection I with I
  subst I;exact⟨d,G,rfl,s2,af,ag⟩
structure Ia (s:RmS):Prop where
 subs:zc s
 pub:Zy s
 malf:0<=s.cnt.malf/\s.cnt.malf<=1000000000
 told:0<=s.cnt.told/\s.cnt.told<=1000000000
 strange:0<=s.cnt.strange/\s.cnt.strange<=1000000000
 acc:0<=s.cnt.acc/\s.cnt.acc<=1000000000
 pks:s.pks.length<=1000000
 clock:xz s.clock
 strs: ∀o t,qh s.strs o=ϊ t->(t.any=ό->xz t.great)/\ ∀sq,U16 sq->xz (yV t sq)
 orgs: ∀x o,qh s.tab.o x=ϊ o->(qh s.strs o).isSome=ό
 queue: ∀b∈s.queue,Byt b/\b.length<=1000000
 ids: ∀o t,qh s.strs o=ϊ t-> ∀h∈t.buf.holds,0<=h.2.2/\h.2.2<(s.pks.length:Int)
 pkok: ∀a∈s.pks,uf a.pk/\uj a.pk
 owes: ∀x id,qh s.book (x,id)=ϊ 0->(qh s.lanes x).isSome=ό
def GO (d:SlI .u8 w v b) (G:Byt b):Calls prog 127 #[v] w (yS (jl b) w):=by
 by_cases hl:(200:Int)<b.length
 ·exact Jc v b w d hl
 ·exact Qd v b w d G hl
def Im (h:qI w0 w k s F) (m:ql w w') {I G H:Value} {p:Pk} (N:PkS w' I G H p) (n: ∀b,(I.ownBlock=ϊ b∨G.ownBlock=ϊ b∨H.ownBlock=ϊ b)->w.heap.size<=b):
  ∃Fn,qI w0 w' k s (Fn++F)/\DT (· ∈Fn) I G H p/\ ∀g∈Fn,g∉F:=by
 obtain⟨T,vp,ad,x⟩:=h;have key: ∀{U:IntKind} {v:Value} {l:List Int},SlI U w' v l->v∈[I,G,H]->(∀b,v.ownBlock=ϊ b->w.heap.size<=b)->l≠[]-> ∀g,v.ownBlock=ϊ g->g∈([I,G,H].filterMap Value.ownBlock).filter (λb=>decide (w.heap.size<=b/\b<w'.heap.size)):=by
  intro U v l ac ab aa Y g J;rw[E8];exact⟨P9.2 ⟨v,ab,J⟩,ϻ ⟨aa g J,ac.old Y J⟩⟩
 have O: ∀b∈([I,G,H].filterMap Value.ownBlock).filter (λb=>decide (w.heap.size<=b/\b<w'.heap.size)),w.heap.size<=b/\b<w'.heap.size:=λb d=>Ϧ (E8.1 d).2
 exact⟨_,⟨T,vp,ad,x.adds m O⟩,⟨key N.s η (λb d=>n b (ϑ d)),key N.e η (λb d=>n b (ϕ (ϑ d))),key N.l η (λb d=>n b (ϕ (ϕ d)))⟩,λg J hF=>by
  have ae:=(O g J).1;have af:=(x.law g hF).2.2
  omega⟩
def Mx (bZ:qI w0 w k s F) (aR:Ia s) (ay:s.queue=b::q) (w1 w2:Int) (acc:Bool):
  Calls prog 148 #[γ k.R,θ #[ι w1,ι w2],acc] w λe w'=>e= .returned (.tuple #[])/\qI w0 w' k s.read F/\qw F w w':=by
 obtain⟨T,vp,ci,h⟩:=bZ;obtain⟨W1,aO⟩:=ν (w.alloc (.cells #[ι w1,ι w2] 157));have bi:Hid (ql w W1):=κ (by rw[<-aO];exact ql.alloc _ _);have bh:=κ (h.on bi.o);have ao:=κ (h.at.stay bi.o);have G:=κ aR;obtain⟨bu,bv⟩:=aR.queue b (by rw[ay];exact ϟ);have ak:=κ (P4 bu bv);obtain⟨sq,az⟩: ∃sq:RmS,{s with queue:=q}=sq:=⟨_,rfl⟩;have U:=κ az;have bg:=κ (My bh.o ay);rw[az] at bg;have cl:=β10 bh.o.blk;have af:Hid (s.read=if Ve b then sq.tell b else sq.media b):=κ (by unfold RmS.read;rw[ay];simp only[az]);clear h aR ay bu bv az;obtain⟨c,aP⟩:=ν (Ve b);have bO:Hid (Zd b=c):=κ (by rw[IR,aP]);rw[aP] at af;have aK:Hid (zc sq/\Zy sq/\(0<=sq.cnt.malf/\sq.cnt.malf<=1000000000/\0<=sq.cnt.told/\sq.cnt.told<=1000000000)):=κ (by rw[<-U.o];exact⟨⟨G.o.subs.keys,G.o.subs.lane,G.o.subs.few⟩,G.o.pub,G.o.malf.1,G.o.malf.2,G.o.told.1,G.o.told.2⟩);clear aP;obtain⟨bq,aQ⟩:=ν ((jl b).2);obtain⟨p,aS⟩:=ν ((jl b).1);have aJ:=κ aQ;have bf:=κ aS;have aL:=κ (λw' v (sl:SlI .u8 w' v b)=>GO sl ak.o.1);unfold yS at aL;rw[aQ,aS] at aL;clear aQ aS
 go_enter func148,ntmps148
 go_upto_region 1 with fail
 (try rw[aO])
 clear aO
 go_upto_if 21 with (first | (go_at_call 184;(go_call bg.o as e bF ⟨ct,cu,rfl,bD,bt,t3⟩;have aM:=κ bD;have aj:=κ bt;have bn:=κ t3;clear bD bt t3)) | (go_at_call 185;(go_call V3 _ b bF aM.o as e w4 ⟨rfl,bY⟩;rw[bO.o];obtain rfl:=bY)))
 cases c with
 | true=>
  go_wp2_with (go_at_call 186;(go_call Mt aj.o aK.o.1 aK.o.2.1 b _ aM.o ak.o.1 ak.o.2 aK.o.2.2 as e w5 ⟨rfl,ar,t5⟩;have bM:=κ ar;have bW:=κ t5;clear ar t5))
  (refine bodyPost_ret (v:= .tuple #[]) ?re2 rfl ?_;(case re2=>simp[results,results148,go_sem]))
  exact⟨rfl,by rw[af.o];exact bM.o,ao.o.trans (bn.o.trans bW.o)⟩
 | false=>
  go_upto_if 31 with (go_at_call 127;(go_call aL.o _ _ aM.o as e w5 ⟨cB,cx,cy,rfl,ai,bz,n5⟩;obtain⟨os,aD,rfl,_⟩:=id ai.s;obtain⟨aE,ke,rfl,_⟩:=id ai.e;obtain⟨aF,aC,rfl,_⟩:=id ai.l;have bj:=κ bz;have bl:=κ ai;have bR:=κ n5;clear bz n5 ai))
  obtain⟨W6,ad⟩:=ν (w5.alloc (.cells (Γh p os aD aE ke aF aC) 133));have bk:Hid (ql bF W6):=κ (by rw[<-ad];exact bj.o.al _);obtain⟨Fn,ar,cf,bX⟩:=Im aj.o bj.o bl.o bR.o;have bQ:=κ (ar.on (by rw[<-ad];exact ql.alloc _ _:ql w5 W6));have bS:=κ cf;have bK:=κ bX;have bU:=κ (bl.o.keep (by rw[<-ad];exact ql.alloc _ _:ql w5 W6));have ba:Hid (W6.heap[w5.heap.size]? =ϊ (.cells (Γh p os aD aE ke aF aC) 133 (0,0))):=κ (by rw[<-ad];exact qj _ _);have bo:=κ (bn.o.trans (aj.o.stay bk.o))
  (try rw[ad])
  clear ad;by_cases he:bq=0
  ·subst he;have am:Hid (sq.media b=match qh sq.tab.o p.sc with | none=>{sq with cnt:={sq.cnt with strange:=sq.cnt.strange+1}} | some o=>sq.accept o p):=κ (by unfold RmS.media;rw[aJ.o,ϓ rfl,bf.o];rfl)
   go_upto_region 7 with fail
   obtain⟨T,vp,ci,bH⟩:=bQ.o;have aq:=κ bH;have an:=κ (λw' (m:ql W6 w')=>Le (aq.o.tab.more m) p.sc);have bJ:=λ(x:qt W6)=>β11 (qq x.h aq.o.blk)
   have bT:=λ(x:qt W6)=>β4 (qq x.h ba.o)
   clear bH;obtain⟨ab,ah⟩:=ν (qh sq.tab.o p.sc);obtain⟨N,av⟩:=ν ((ab.getD (0,0)).1);obtain⟨o2,aw⟩:=ν ((ab.getD (0,0)).2);obtain⟨bB,ax⟩:=ν (ab.isSome);rw[ah,av,aw,ax] at an
   go_cut [10,11] from 41 to 51 (λcg ch bG=> ∃A,cg= γ A/\ch= μ bB/\bG.heap[A]? =ϊ (.cells #[ι N,ι o2] 111 (0,0))/\ql W6 bG)
   case first=>
    refine zB W6 14 (.op 0 ύ (.op 1 ύ (.op 2 ύ (.op 3 ύ (.op 4 ύ (.op 5 ύ (.op 6 ύ (.br [7,11] λk=>if k=7 then .op 8 ύ (.op 9 ύ (.op 10 ύ (.op 11 ό (.op 12 ό (.op 13 ύ (.done)))))) else .op 7 ό (.op 8 ύ (.op 9 ύ (.op 10 ύ (.op 12 ό (.op 13 ύ (.done)))))))))))))) ξ ξ ?_
    repeat (first | (refine jg rfl rfl (qk ρ) ?_) | (refine qH rfl rfl (qk ρ) ?_;intro K d;go_big_quiet_op;go_big_quiet_on))
    refine wP ζ ?_ ?_
    ·(refine qO rfl rfl ?_;intro K d;unfold jn;go_simp)
     refine(an.o _ (ql.drewN W6 1)).mono ?_;rintro e w8 ⟨rfl,bA⟩;have J:Hid (ql W6 w8):=κ ((ql.drewN W6 1).trans bA);clear bA;refine⟨_,rfl,qk J.o,d _ _ ?_⟩;clear d K
     repeat (first | (refine jg rfl rfl (qk J.o) ?_) | (refine qH rfl rfl (qk J.o) ?_;intro K d;go_big_quiet_op;go_big_quiet_on))
     (refine qO rfl rfl ?_;intro K d;unfold jn;go_simp)
     refine⟨qk (J.o.al _),d _ _ ?_⟩;clear d K;obtain⟨w9,aB⟩:=ν (w8.alloc (.cells #[ι 0,ι 0] 111));obtain⟨A,Y⟩:=ν (w8.heap.size);have I:Hid (w9.heap[A]? =ϊ (.cells #[ι 0,ι 0] 111 (0,0))):=κ (by rw[<-aB,<-Y];exact qj w8 _);have aa:Hid (ql W6 w9):=κ (by rw[<-aB];exact J.o.al _);have ae:Hid (W6.heap.size<=A):=κ (by rw[<-Y];exact J.o.size)
     (try rw[aB])
     (try rw[Y])
     clear aB Y;have z0:=β0 I.o;have aZ:=β1 I.o;have aX:=yw I.o 0;have aY:=yw I.o 1
     repeat (first | (refine jg rfl rfl (qk aa.o) ?_) | (refine qH rfl rfl (qk aa.o) ?_;intro K d;go_big_quiet_op;go_big_quiet_on))
     (refine qO rfl rfl ?_;intro K d;unfold jn;go_simp)
     have H:Hid (ql W6 ((w9.setCell ⟨A,0,ϋ⟩ (ι N)).setCell ⟨A,1,ϋ⟩ (ι o2))):=κ ((aa.o.st ae.o _).st ae.o _);have ac:=κ (qB (qp (qp I.o 0 (ι N)) 1 (ι o2)) (cs':= #[ι N,ι o2]) rfl);refine⟨qk H.o,d _ _ ?_⟩;clear d K z0 aZ aX aY
     repeat (first | (refine jg rfl rfl (qk H.o) ?_) | (refine qH rfl rfl (qk H.o) ?_;intro K d;go_big_quiet_op;go_big_quiet_on))
     refine zg ?_;go_wp2;go_meet;exact⟨A,rfl,rfl,ac.o,H.o⟩
    ·(refine qO rfl rfl ?_;intro K d;unfold jn;go_simp)
     refine⟨qk ((ql.drewN W6 1).al _),d _ _ ?_⟩;clear d K;obtain⟨w8,aA⟩:=ν ((W6.drewN 1).alloc (.cells #[ι 0,ι 0] 111));obtain⟨A,Y⟩:=ν (W6.heap.size);have bI:Hid (w8.heap[A]? =ϊ (.cells #[ι 0,ι 0] 111 (0,0))):=κ (by rw[<-aA,<-Y];exact qj (W6.drewN 1) _);have J:Hid (ql W6 w8):=κ (by rw[<-aA];exact(ql.drewN W6 1).al _);have ae:Hid (W6.heap.size<=A):=κ (by rw[<-Y];exact(ql.drewN W6 1).size)
     (try rw[aA])
     (try rw[Y])
     clear aA Y
     repeat (first | (refine jg rfl rfl (qk J.o) ?_) | (refine qH rfl rfl (qk J.o) ?_;intro K d;go_big_quiet_op;go_big_quiet_on))
     (refine qO rfl rfl ?_;intro K d;unfold jn;go_simp)
     refine(an.o _ J.o).mono ?_;rintro e w9 ⟨rfl,aV⟩;have aa:=κ (J.o.trans aV);have I:=κ (qq aV bI.o);clear aV;refine⟨_,rfl,qk aa.o,d _ _ ?_⟩;clear d K;have z0:=β0 I.o;have aZ:=β1 I.o;have aX:=yw I.o 0;have aY:=yw I.o 1
     repeat (first | (refine jg rfl rfl (qk aa.o) ?_) | (refine qH rfl rfl (qk aa.o) ?_;intro K d;go_big_quiet_op;go_big_quiet_on))
     (refine qO rfl rfl ?_;intro K d;unfold jn;go_simp)
     have H:Hid (ql W6 ((w9.setCell ⟨A,0,ϋ⟩ (ι N)).setCell ⟨A,1,ϋ⟩ (ι o2))):=κ ((aa.o.st ae.o _).st ae.o _);have ac:=κ (qB (qp (qp I.o 0 (ι N)) 1 (ι o2)) (cs':= #[ι N,ι o2]) rfl);refine⟨qk H.o,d _ _ ?_⟩;clear d K z0 aZ aX aY
     repeat (first | (refine jg rfl rfl (qk H.o) ?_) | (refine qH rfl rfl (qk H.o) ?_;intro K d;go_big_quiet_op;go_big_quiet_on))
     refine zg ?_;go_wp2;go_meet;exact⟨A,rfl,rfl,ac.o,H.o⟩
   case rest=>
   obtain⟨A,rfl,rfl,bp,bx⟩:=hcut;have ac:=κ bp;have H:=κ bx;clear bp bx bJ bT an;have ap:=κ (aq.o.on H.o);have bm:=κ (bo.o.trans ((aq.o.sub (F':=F) (λb ag=>ϐ _ ag)).at.stay H.o));cases bB with
   | false=>
    have cc:ab=ϋ:=by
     cases ab with
     | none=>rfl
     | some o=>cases ax
    have aI:Hid (sq.media b={sq with cnt:={sq.cnt with strange:=sq.cnt.strange+1}}):=κ (by rw[am.o,ah,cc]);have ce:0<=sq.cnt.strange/\sq.cnt.strange<=1000000000:=by rw[<-U.o];exact G.o.strange
    obtain⟨cv,cw⟩:=ce;have cn:=β18 ap.o.blk;have cp:=yw ap.o.blk 18;have bb:=κ (ap.o.at.cell 18 (ι (sq.cnt.strange+1)) (s':={sq with cnt:={sq.cnt with strange:=sq.cnt.strange+1}}) (λ_ _=>rfl) ⟨rfl,rfl,rfl,rfl,rfl,rfl,rfl,rfl,rfl⟩);go_wp2
    (refine bodyPost_ret (v:= .tuple #[]) ?re3 rfl ?_;(case re3=>simp[results,results148,go_sem]))
    exact⟨rfl,by rw[af.o,Ϗ ζ,aI.o];exact bb.o.1.sub (λb ag=>ϐ _ ag),ao.o.trans (bm.o.trans (bb.o.2.sub (λb ag=>ϐ _ ag)))⟩
   | true=>
    obtain⟨o,au⟩: ∃o,ab=ϊ o:=by
     cases ab with
     | none=>cases ax
     | some o=>exact⟨o,rfl⟩
    have aN:o=(N,o2):=by rw[au] at av aw;rw[<-av,<-aw];rfl
    have aI:Hid (sq.media b=sq.accept (N,o2) p):=κ (by rw[am.o,ah,au,aN]);have bw:(qh sq.strs (N,o2)).isSome=ό:=by
     have O:=ah;rw[au,aN] at O;rw[<-U.o] at O ⊢;exact G.o.orgs _ _ O
    obtain⟨t,aT⟩:=Ϯ.1 bw
    obtain⟨aG,aW,bC⟩:=Kh ak.o.1 (by
     intro ca;have O:=aJ.o;unfold jl at O;rw[ϓ ca] at O
     cases O)
    rw[bf.o] at aG aW bC;have aU:(t.any=ό->xz t.great)/\ ∀sq,U16 sq->xz (yV t sq):=by
     have O:=aT;rw[<-U.o] at O;exact G.o.strs _ _ O
    have be:=κ (λ(cd:zc sq) (hck:xz sq.clock) (jo:sq.pks.length<=1000000) (hcnt:0<=sq.cnt.acc/\sq.cnt.acc<=1000000000)=>FI ap.o.at cd N o2 aT p _ _ _ (bU.o.keep H.o) bS.o bK.o aG (aU.2 _ aG) aU.1 hck jo hcnt aW τ);have bN:=κ (be.o (by rw[<-U.o];exact⟨G.o.subs.keys,G.o.subs.lane,G.o.subs.few⟩) (by rw[<-U.o];exact G.o.clock) (by rw[<-U.o];exact G.o.pks) (by rw[<-U.o];exact G.o.acc));have a0:=β0 ac.o;have cj:=β1 ac.o;have bP:Hid (wc.rangeAt w5.heap.size 0 (Γh p os aD aE ke aF aC)):=κ (xy (qq H.o ba.o));clear be aU aG aW bC bw aT au aN ah av aw ax
    go_wp2_with (first | (refine wpList_load_mid rfl 133 (.tmp 8) rfl w5.heap.size 0 rfl (Γh p os aD aE ke aF aC) _ bP.o underlying133 rfl ξ ?_) | (go_at_call 188;(go_call bN.o as e cC ⟨rfl,bs,bE⟩;have bL:=κ bs;have bV:=κ bE;clear bs bE)))
    (refine bodyPost_end (v:= .tuple #[]) ?re1 rfl ?_;(case re1=>simp[results,results148,go_sem]))
    exact⟨rfl,by rw[af.o,Ϗ ζ,aI.o];exact bL.o,ao.o.trans (bm.o.trans bV.o)⟩
  ·have ck:(bq != 0)=ό:=by simp[he]
   have am:Hid (sq.media b={sq with cnt:={sq.cnt with malf:=sq.cnt.malf+1}}):=κ (by unfold RmS.media;rw[aJ.o,Ϗ he]);clear he;have cb:0<=sq.cnt.malf/\sq.cnt.malf<=1000000000:=by rw[<-U.o];exact G.o.malf
   obtain⟨cq,cr⟩:=cb;have bc:=κ (aj.o.on bk.o);obtain⟨cz,cA,aH⟩:=bc.o.blk;have cm:=β17 aH;have co:=yw aH 17;clear aH;have bd:=κ (bc.o.cell 17 (ι (sq.cnt.malf+1)) (s':={sq with cnt:={sq.cnt with malf:=sq.cnt.malf+1}}) (λ_ _=>rfl) ⟨rfl,rfl,rfl,rfl,rfl,rfl,rfl,rfl,rfl⟩);go_wp2
   (refine bodyPost_ret (v:= .tuple #[]) ?re4 rfl ?_;(case re4=>simp[results,results148,go_sem]))
   exact⟨rfl,by rw[af.o,Ϗ ζ,am.o];exact bd.o.1,ao.o.trans (bo.o.trans bd.o.2)⟩
def acC (a:AcS) (vs ve vl:Value):List Value:=[.int .i64 a.o.1,.int .i64 a.o.2,.int .i64 a.num,.bool a.pk.mr,.int .u8 a.pk.ty,.int .u16 a.pk.sq,.int .u32 a.pk.st,.int .u32 a.pk.sc,vs,.bool a.pk.has,.int .u16 a.pk.pr,ve,vl]
def RmP (cs:List Value) (a:AcS) (w0 w:World) (k:RmK) (s:RmS) (F:List Nat):Prop:= ∃T vp vr,RmX T w0 w k vp vr s F/\jw RAc (λb=>T b≠ .data/\T b≠ .pks) w cs a
section
variable {T:Nat->Tg} {w0 w w':World} {k:RmK} {vp vr:Value} {s:RmS} {F:List Nat} {cs:List Value} {a:AcS}
def RmP.at (h:RmP cs a w0 w k s F):qI w0 w k s F:=by
 obtain⟨T,vp,d,x,_⟩:=h;exact⟨T,vp,d,x⟩
def RmP.on (h:RmP cs a w0 w k s F) (m:ql w w'):RmP cs a w0 w' k s F:=by
 obtain⟨T,vp,G,x,d⟩:=h;exact⟨T,vp,G,x.on m,d.step (jt.of_more m)⟩
def RmP.adds {Fn:List Nat} (h:RmP cs a w0 w k s F) (m:ql w w') (G: ∀b∈Fn,w.heap.size<=b/\b<w'.heap.size):RmP cs a w0 w' k s (Fn++F):=by
 obtain⟨T,vp,H,x,d⟩:=h;exact⟨T,vp,H,x.adds m G,d.step (jt.of_more m)⟩
def RmP.pk {H d G:Value} (h:RmP (acC a H d G) a w0 w k s F):PkS w H d G a.pk:=by
 obtain⟨T,vp,O,x,I⟩:=h;obtain⟨J,N,v3,e,pk⟩:=I.read;unfold acC at e;simp only[O6,and_true,true_and] at e;obtain⟨rfl,rfl,rfl⟩:=e;exact pk
def RmX.growP (h:RmX T w0 w k vp vr s F) {t:Tg} (G:t≠ .data) (H:t≠ .pks) (J:jt (λb=>T b=t) w w') (I:jw RAc (λb=>T b≠ .data/\T b≠ .pks) w cs a):jw RAc (λb=>jZ T t w w' b≠ .data/\jZ T t w w' b≠ .pks) w' cs a:=
 (I.step (J.mono λb d=>by rw[d];exact⟨G,H⟩)).other λb d=>ϑ ⟨λe=>d.1 ((jF h.fresh η (C4 G) b).2 e),λe=>d.2 ((jF h.fresh η (C4 H) b).2 e)⟩
def RmX.lanePutX (h:RmX T w0 w k vp vr s F) {x:Int} {l l':LnS} {p:Nat} (U:qh s.lanes x=ϊ l) (I:qh k.LA x=ϊ p) (b:zw (xf (λb=>T b= .lane x) w w') w' p l') (a:jt (λb=>T b= .lane x) w w'):
  RmX (jZ T (.lane x) w w') w0 w' k vp vr {s with lanes:=qx s.lanes x l'} F/\qw F w w':=by
 have J:=h.fresh;exact h.own (t:= .lane x) (k':=k) (vp':=vp) (vr':=vr) (s':={s with lanes:=qx s.lanes x l'}) ⟨η,η⟩ a
  ⟨λaa l2 G d=>by
   rw[I] at G;rw[xD] at d;injection G with G
   injection d with d
   subst G d;rw[wW J η]
   exact b,by rw[I,xD];rfl⟩
  (λu N Y y=>by
   cases u<;>first | exact y | skip
   rename_i O;have H:O≠x:=λe=>N (by rw[e])
   exact⟨λp l G d=>y.1 p l G (by rw[vF _ _ H] at d;exact d),by rw[vF _ _ H];exact y.2⟩)
def RmX.bookX (h:RmX T w0 w k vp vr s F) {m:Bk} (b:jy w' k.B k.b m) (a:jt (λx=>x=k.b) w w'):RmX (jZ T .book w w') w0 w' k vp vr {s with book:=m} F/\qw F w w':=by
 obtain⟨H,d,_⟩:=h.all .book;have G:=h.fresh;exact h.own (t:= .book) (k':=k) (vp':=vp) (vr':=vr) (s':={s with book:=m}) ⟨η,η⟩ (a.mono λb I=>by rw[I];exact d) ⟨(jd G η _).2 (ϑ H),(jd G η _).2 (ϑ d),b⟩ (λu J N x=>by cases u<;>first | exact x | exact ϧ rfl J)
def CD (h:RmP cs a w0 w k s F) (sub id f:Int):
  Calls prog 178 #[θ #[γ k.B],ι sub,ι id,ι f] w λe w'=>e= .returned (.tuple #[])/\RmP cs a w0 w' k {s with book:=jp s.book sub id f} F/\qw F w w':=by
 obtain⟨T,vp,O,x,G⟩:=h;have J:=(x.all .book).2.1;refine(gI x.bok sub id f).mono ?_;rintro e w' ⟨rfl,b,d⟩;obtain⟨H,I⟩:=x.bookX b d;exact⟨rfl,⟨_,_,_,H,x.growP η η (d.mono λb N=>by rw[N];exact J) G⟩,I⟩
def Mz (h:RmP cs a w0 w k s F) (x:ItS) (os J N:Option Addr) (I ke H:Nat) (ag:PkS w (δ os x.pk.ss.length I) (δ J x.pk.ex.length ke) (δ N x.pk.pl.length H) x.pk) (af:uf x.pk) (ah:uj x.pk)
  {sub:Int} {l:LnS} {pl:Nat} (O:qh s.lanes sub=ϊ l) (Y:qh k.LA sub=ϊ pl):
  Calls prog 192 #[γ pl,(Γj x os I J ke N H)] w λe w'=>e= .returned (.tuple #[ι (xp l x).2.1,μ (xp l x).2.2.1,ι (xp l x).2.2.2])/\
   RmP cs a w0 w' k {s with lanes:=qx s.lanes sub (xp l x).1} F/\qw F w w'/\jt (λb=>b≠k.R/\b≠k.ML/\b∉F) w w':=by
 obtain⟨T,vp,ak,y,aa⟩:=h;have ab:=(y.all .room).1;have ac:=(y.all .lns).1;have ad:=y.law;obtain⟨p2,U,ae⟩:=y.laneAt O;obtain rfl:p2=pl:=by rw[Y] at U;injection U with e;exact e.symm
 refine(Ij ae x os J N I ke H ag af ah).mono ?_;rintro e w' ⟨rfl,b,G⟩;obtain⟨ai,aj⟩:=y.lanePutX O Y b G;exact⟨rfl,⟨_,_,_,ai,y.growP η η G aa⟩,aj,G.mono λb d=>⟨λe=>by rw[e,ab] at d;(cases d),λe=>by rw[e,ac] at d;(cases d),λe=>by rw[(ad b e).1] at d;(cases d)⟩⟩
def RmX.pkRow (h:RmX T w0 w k vp vr s F) {i:Nat} (hi:i<s.pks.length): ∃g cap os H I G ke d,vp= δ (ϊ ⟨g,0,ϋ⟩) s.pks.length cap/\T g= .pks/\g<w.heap.size/\(∀j v,(acC s.pks[i] (δ os s.pks[i].pk.ss.length G) (δ H s.pks[i].pk.ex.length ke) (δ I s.pks[i].pk.pl.length d))[j]? =ϊ v->w.cell? ⟨g,i* 13+j,ϋ⟩=ϊ v)/\
  RmP (acC s.pks[i] (δ os s.pks[i].pk.ss.length G) (δ H s.pks[i].pk.ex.length ke) (δ I s.pks[i].pk.pl.length d)) s.pks[i] w0 w k s F:=by
 obtain⟨⟨⟨xs,Y,r⟩,_⟩,ac⟩:=h.all .pks;rcases id Y.2 with ⟨_,ad⟩ | ⟨g,cap,cur,rfl,af,N,ae,ag,_⟩
 ·omega
 ·have O:=r i hi;obtain⟨aj,ah,ai,e,pk⟩:=O.read;obtain⟨os,G,rfl,_⟩:=id pk.s;obtain⟨H,ke,rfl,_⟩:=id pk.e;obtain⟨I,d,rfl,_⟩:=id pk.l;refine⟨g,cap,os,H,I,G,ke,d,rfl,ac g rfl,lt_of_block N,λj v U=> ?_,T,_,vr,h, ?_⟩
  ·have ab:j<13:=by
    have:=(ϣ.1 U).1
    simpa [acC] using this
   rw[Y.cellAt _ τ];have J:=Γ (λl:List Value=>l[j]?) e;simp only[C0,G1] at J;rw[ϓ ab] at J;rw[J];exact U
  ·have aa:(xs.drop (i* 13)).take 13=acC s.pks[i] (δ os s.pks[i].pk.ss.length G) (δ H s.pks[i].pk.ex.length ke) (δ I s.pks[i].pk.pl.length d):=e;rw[<-aa];exact O.other λb N=>ϑ (ϑ N)
end
end Go.Proofs.YtmgaiiffmheabaaGreatDoor
