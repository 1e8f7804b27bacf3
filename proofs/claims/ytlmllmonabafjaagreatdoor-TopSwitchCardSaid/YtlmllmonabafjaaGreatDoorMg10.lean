/- x -/
import Derived.Test.YtlmllmonabafjaaGreatDoorMg9
namespace Go.Proofs.YtlmllmonabafjaaGreatDoor
open Option renaming some->ϊ,none->ϋ
open Bool renaming true->ό,false->ύ
open Go.Value renaming bool->μ,slice->δ,pointer->π,agg->θ
open Go.IntKind renaming i64->ι,u8->υ,u16->φ,u32->ω,i32->χ,u64->ψ
open _root_.Go.Proofs.Tryz
set_option linter.all false
set_option maxHeartbeats 8000000
open Go.RowKit
set_option maxRecDepth 100000
variable {w w' w0 W:World} {F:List Nat} {s s':RmS} {v vp vr v':Value} {k:RmK} {b L l:List Int} {T:Nat->Tg} {q:List (List Int)} {cs:List Value}
def Yu {base e:Nat} (h:w.ownsRow base e 1 v L.length (L.map (Value.int .i64))):
  ∃oa cap,v= δ oa L.length cap/\L.length<=maxLen/\ ∀w':World,(∀g,base<=g->g<w.heap.size->w'.heap[g]? =w.heap[g]?)-> ∀i (hi:i<L.length),∃g,oa=ϊ ⟨g,0,ϋ⟩/\w'.cell? ⟨g,i,ϋ⟩=ϊ (ι L[i]):=by
 rcases id h.2 with ⟨rfl,d⟩ | ⟨g,cap,cur,rfl,G,H,J,N,_⟩
 ·exact⟨ϋ,0,by rw[d],τ,λw' _ i hi=>by omega⟩
 ·refine⟨_,cap,rfl,τ,λw' e i hi=>⟨g,rfl, ?_⟩⟩;have I:=h.cellAt i τ;rw[World.cell?_of_block (e g G (lt_of_block H)),I,I3,ϖ hi];rfl
def RmX.orgsF {J:Value} (h:RmX T w0 w k vp J s F):
  Calls prog 64 #[γ k.R] w λe w'=> ∃G cap Fn,e= .returned (δ G s.origins.length cap)/\s.origins.length<=9/\RmX T w0 w' k vp J s (Fn++F)/\qh w w'/\
   ∀w'':World,(∀b∈Fn,w''.heap[b]? =w'.heap[b]?)-> ∀i (hi:i<s.origins.length),∃b,G=ϊ ⟨b,0,ϋ⟩/\w''.cell? ⟨b,i* 2,ϋ⟩=ϊ (ι s.origins[i].1)/\w''.cell? ⟨b,i* 2+1,ϋ⟩=ϊ (ι s.origins[i].2):=by
 refine h.orgsRow.mono ?_;rintro e w' ⟨v,rfl,r,m⟩;have U:s.origins.length<=9:=by
  unfold RmS.origins;exact ϙ (D2 _ _) ζ
 obtain⟨G,cap,rfl,_,Y⟩:=BV r;refine⟨G,cap,match G with | some a=>if w.heap.size<=a.block/\a.block<w'.heap.size then [a.block] else [] | none=>[],rfl,U,h.adds m (λb d=> ?_),m,λw'' I i hi=> ?_⟩
 ·cases G with
  | none=>simp at d
  | some a=>
   simp only at d;split at d
   ·rename_i H;simp at d;subst d;exact H
   ·simp at d
 ·obtain⟨b,rfl,O,H,N,c1⟩:=Y i hi;simp only[O,H,and_self,Ψ] at I;have e:=I b η;exact⟨b,rfl,by rw[World.cell?_of_block e];exact N,by rw[World.cell?_of_block e];exact c1⟩
def Ut (L:List Int): ∀s:RmS,(L.foldl RmS.drain1 s).strs=s.strs:=by
 induction L with
 | nil=>intro s;rfl
 | cons x L ih=>intro s;rw[B6,ih];rfl
def Us (s:RmS) (o x:Og):(qm (s.drainO o).strs x).isSome=(qm s.strs x).isSome:=by
 unfold RmS.drainO;cases ho:qm s.strs o with
 | none=>rfl
 | some t=>
  simp only[Ut,qE];by_cases e:x=o
  ·rw[ϒ e,e,ho];rfl
  ·rw[ώ e]
def VO (L:List Og) (x:Og): ∀s:RmS,(qm (L.foldl RmS.drainO s).strs x).isSome=(qm s.strs x).isSome:=by
 induction L with
 | nil=>intro s;rfl
 | cons o L ih=>intro s;rw[B6,ih,Us]
def JK {j:Nat} (h:j<6):subIds.take (j+1)=subIds.take j++[(j:Int)]:=by
 have:j=0∨j=1∨j=2∨j=3∨j=4∨j=5:=by omega
 rcases this with rfl | rfl | rfl | rfl | rfl | rfl<;>rfl
def WW (L:List Int): ∀s:RmS,(L.foldl RmS.drain1 s).ret=s.ret:=by
 induction L with
 | nil=>intro s;rfl
 | cons x L ih=>intro s;rw[B6,ih];rfl
def WV (s:RmS) (o:Og):(s.drainO o).ret=s.ret:=by
 unfold RmS.drainO;cases qm s.strs o with
 | none=>rfl
 | some t=>simp only[WW]
def An (s:RmS) (w:Og):(s.drain w).ret=s.ret:=by
 unfold RmS.drain;split
 ·rfl
 ·split
  ·have: ∀(L:List Og) (s:RmS),(L.foldl RmS.drainO s).ret=s.ret:=by
    intro L
    induction L with
    | nil=>intro s;rfl
    | cons o L ih=>intro s;rw[B6,ih,WV]
   exact this _ _
  ·unfold RmS.drainL;cases qm s.lanes w.2<;>rfl
def Zm (h:qL w0 w k s F) (sub id f:Int):
  Calls prog 122 #[θ #[γ k.B],ι sub,ι id,ι f] w λe w'=>e= .returned (.tuple #[])/\qL w0 w' k {s with book:=jn s.book sub id f} F/\qA F w w'/\qk (λb=>b=k.b) w w':=by
 obtain⟨T,vp,H,x⟩:=h;refine(QB x.bok sub id f).mono ?_;rintro e w' ⟨rfl,b,a⟩;obtain⟨d,G⟩:=x.book b a;exact⟨rfl,d,G,a⟩
def qL.blk (h:qL w0 w k s F): ∃vp d,w.heap[k.R]? =ϊ (.cells (yj k vp d s) 95 (0,0)):=by
 obtain⟨T,vp,d,x⟩:=h;exact⟨vp,d,x.blk⟩
def qL.nb (h:qL w0 w k s F):k.R≠k.b/\(∀b∈F,b≠k.b)/\k.b<w.heap.size:=by
 obtain⟨T,vp,I,x⟩:=h;obtain⟨_,d,H⟩:=x.all .book;refine⟨λe=> ?_,λb G e=> ?_,H.map.lt⟩
 ·rw[<-e,(x.all .room).1] at d;cases d
 ·rw[<-e,(x.law b G).1] at d;cases d
def LT (s s':RmS):Prop:=s'.ret=s.ret/\s'.queue=s.queue/\s'.tab=s.tab/\s'.book=s.book/\s'.lanes=s.lanes/\s'.strs=s.strs/\s'.pks=s.pks/\s'.reqs=s.reqs/\s'.cfg=s.cfg
def qL.self (h:qL w0 w k s F) (a:qk (λb=>b=k.R) w w') (blk: ∀vp d,w.heap[k.R]? =ϊ (.cells (yj k vp d s) 95 (0,0))->w'.heap[k.R]? =ϊ (.cells (yj k vp d s') 95 (0,0))) (r:LT s s'):qL w0 w' k s' F/\qA F w w':=by
 obtain⟨T,vp,d,x⟩:=h;obtain⟨I,J,N,O,U,Y,aa,ab,ac⟩:=r;refine x.self a (blk vp d x.blk) (λu H G y=> ?_);cases u<;>first | exact ϧ rfl H | exact ϧ rfl G | (unfold RmK.Holds at y ⊢;(try simp only[I,J,N,O,U,Y,aa,ab,ac]);(try exact y))
def qL.cell (h:qL w0 w k s F) (i:Nat) (v:Value) (e: ∀vp d,(yj k vp d s).setIfInBounds i v=yj k vp d s') (r:LT s s'):qL w0 (w.setCell ⟨k.R,i,ϋ⟩ v) k s' F/\qA F w (w.setCell ⟨k.R,i,ϋ⟩ v):=
 h.self (qk.set (S:=λb=>b=k.R) (qk.refl _ _) (p:=⟨k.R,i,ϋ⟩) rfl v) (λvp d b=>qF (qt b i v) (e vp d)) r
def MR (h:qL w0 w k s F):w.cell? ⟨k.R,16,ϋ⟩=ϊ (ι s.cnt.lost)/\w.frozen? ⟨k.R,16,ϋ⟩=ύ/\ ∃vp d,w.heap[k.R]? =ϊ (.cells (yj k vp d s) 95 (0,0)):=by
 obtain⟨T,vp,d,x⟩:=h;exact⟨qi x.blk 16 rfl,ql x.blk 16,vp,d,x.blk⟩
def Rd (h:qL w0 w k s F) (w1 w2:Int) (acc:Bool) (cp:0<=w1/\w1<=4) (az:2<=w1->(qm s.lanes w2).isSome=ό) (co:0<=s.cnt.lost/\s.cnt.lost<=1000000000):
  Calls prog 78 #[γ k.R,θ #[ι w1,ι w2],acc] w λe w'=>e= .returned (.tuple #[])/\qL w0 w' k (s.endW (w1,w2)) F/\qA F w w':=by
 have ca:=κ (h.stay (qh.alloc w (.cells #[ι w1,ι w2] 37)));have bB:=h.adds (qh.alloc w (.cells #[ι w1,ι w2] 37)) (Fn:=[w.heap.size]) (λb G=>by simp at G;subst G;simp);have aC:=κ (qp w (.cells #[ι w1,ι w2] 37));obtain⟨W1,bC⟩:=ν (w.alloc (.cells #[ι w1,ι w2] 37));rw[bC] at bB aC ca;have bl:=κ bB;have cY:=κ az;have cZ:=κ co;have dp:=β0 aC.o;obtain⟨cA,cB⟩:=cp;clear h bB az co
 go_enter func78,ntmps78
 go_upto_block 0 with fail
 (try rw[bC])
 clear bC
 go_cut [5,6,7,8,9,10,11,12] from 17 to 94 (λ_ _ _ _ _ _ _ _ cI=>qL w0 cI k (s.drain (w1,w2)) ([w.heap.size]++F)/\qA ([w.heap.size]++F) W1 cI)
 case first=>
  by_cases e0:w1=0
  ·subst e0;obtain⟨T,vp,bL,I⟩:=bl.o;have H:=κ I;have dy: ¬RgB k.RQ k.AQ k.R:=by
    obtain⟨cE,cF,_⟩:=I.all .queue;rintro(e | e)
    ·rw[<-e,(I.all .room).1] at cE;cases cE
    ·rw[<-e,(I.all .room).1] at cF;cases cF
   have bs:=λ(x:qC (RgB k.RQ k.AQ) W1)=>x.h.blk H.o.blk dy
   have dC:=λx=>β16 (bs x);have dB:=λx=>β10 (bs x);clear bs
   have dL:(s.queue.length:Int)<=8:=by have:=I.que.fit;omega
   obtain⟨dM,dN⟩:=cZ.o;clear I
   go_upto_region 8 with fail
   refine QN (RgB k.RQ k.AQ) W1 15 16 [9,12,13,15] ?_
   refine Qs9 ?_
   (refine Ql ?_;intro K d)
   go_call Lc (H.o.on (qh.drewN W1 1)) as e aS ⟨⟨cD,cap,rfl⟩,aK,cG,cf⟩;have aB:Hid (qk (RgB k.RQ k.AQ) W1 aS):=κ (((qk.refl _ _).drewN 1).trans cf);have dm:Hid (qA ([w.heap.size]++F) W1 aS):=κ ((H.o.at.stay (qh.drewN W1 1)).trans cG);have aD:=κ aK;clear aK cG cf;refine⟨_,rfl,qn aB.o,d _ _ ?_⟩;clear d K
   iterate 2 (refine qz rfl rfl (qn aB.o) ?_;intro K d;go_big_quiet_op;go_big_quiet_on)
   have di:=κ (MR aD.o);obtain⟨dE,dG,aU⟩:=di.o
   (refine Ql ?_;intro K d)
   refine⟨qn aB.o,d _ _ ?_⟩;clear d K
   (refine Ql ?_;intro K d)
   refine⟨qn aB.o,d _ _ ?_⟩;clear d K
   iterate 1 (refine qz rfl rfl (qn aB.o) ?_;intro K d;go_big_quiet_op;go_big_quiet_on)
   (refine Qe ?_;intro K d)
   refine d _ _ ?_;clear d K;refine qD ?_;have af:=aD.o.cell 16 (ι (s.cnt.lost+s.queue.length)) (s':={s with queue:=[],cnt:={s.cnt with lost:=s.cnt.lost+s.queue.length}}) (λ_ _=>rfl) ⟨rfl,rfl,rfl,rfl,rfl,rfl,rfl,rfl,rfl⟩;have af:=κ af;go_wp2;go_meet;exact⟨af.o.1,dm.o.trans af.o.2⟩
  ·by_cases e1:w1=1
   ·subst e1;obtain⟨T,vp,bL,I⟩:=bl.o;have H:=κ I;clear I;obtain⟨O,bH⟩:=ν (s.origins);have bW:=κ bH;have bX:=κ H.o.orgsF;rw[bH] at bX;clear bH
    go_wp2_with (go_at_call 64;(go_call bX.o as e aR ⟨cD,cap,Fn,rfl,cj,cJ,cy,aO⟩;have bc:=κ aO;have cW:=κ cJ.at;have dg:=κ cy;have da:=κ cj;clear aO cJ cy cj))
    have dk:=κ (H.o.at.stay dg.o);have ba:Hid (s.drain (1,w2)=O.foldl RmS.drainO s):=κ (by rw[<-bW.o];rfl);have dK:=da.o
    go_loopw [63] (λab wr=> ∃j:Nat,j<=O.length/\ab= ι j/\qL w0 wr k ((O.take j).foldl RmS.drainO s) (Fn++([w.heap.size]++F))/\qA (Fn++([w.heap.size]++F)) aR wr) (λab _=>O.length-(intOf ab).toNat)
    case atStart=>exact⟨0,τ,rfl,cW.o,qA.refl _ _⟩
    case round=>
     obtain⟨j,dv,rfl,N,J⟩:=hrel;have ax:=κ J;by_cases hlt:j<O.length
     ·have bF:(j:Int)<(O.length:Int):=by omega
      obtain⟨g,rfl,bA,c1⟩:=bc.o wr (λb G=>J.2 b (by simp[G])) j hlt;have br:Hid (O.take (j+1)=O.take j++[O[j]]):=κ (by rw[A9,ϖ hlt];rfl);have cl:(qm ((O.take j).foldl RmS.drainO s).strs O[j]).isSome=ό:=by
       rw[VO];have:O[j]∈s.origins:=by rw[bW.o];exact Ϣ hlt
       obtain⟨t,J⟩:=kp this;rw[J];rfl
      obtain⟨t,bI⟩:=Ϟ.1 cl;have cd:=κ bI;clear cl J;generalize O[j]=o at *;generalize cu:(O.take j).foldl RmS.drainO s=sj at *;have dc:=κ cu;clear cu;obtain⟨U,o2⟩:=o;simp only at bA c1;obtain⟨aa,bd⟩:=ν (wr.alloc (.cells #[ι U,ι o2] 58));have ce:Hid (qh wr aa):=κ (by rw[<-bd];exact qh.alloc _ _);have bO:Hid (aa.heap[wr.heap.size]? =ϊ (.cells #[ι U,ι o2] 58 (0,0))):=κ (by rw[<-bd];exact qp wr _);have bx:=κ (ax.o.trans (N.stay ce.o));obtain⟨ag,dz,dA,cw⟩:=N;have ai:RmX ag w0 aa k dz dA sj ([wr.heap.size]++(Fn++([w.heap.size]++F))):=cw.adds ce.o (λb G=>by simp at G;subst G;exact⟨ϕ _,lt_of_block bO.o⟩);have aF:=κ ai;obtain⟨p,dj,v,aN,cx⟩:=ai.strAt bI;have ap:=κ cx;have aE:=κ aN;have bK: ¬ag k.R= .str (U,o2):=by rw[(ai.all .room).1];simp
      have bJ: ¬ag k.MS= .str (U,o2):=by rw[(ai.all .sts).1];simp
      have dx: ¬ag wr.heap.size= .str (U,o2):=by rw[(ai.law wr.heap.size η).1];simp
      have cN:=λ(x:qC (λb=>ag b= .str (U,o2)/\b≠p) aa)=>β13 (x.h.blk aF.o.blk (λq=>bK q.1))
      have bt:=λ(x:qC (λb=>ag b= .str (U,o2)/\b≠p) aa)=>x.h.blk bO.o (λq=>dx q.1)
      have aw:=λx=>β0 (bt x);have aX:=λx=>β1 (bt x);clear bt
      have bk: ∀x:qC (λb=>ag b= .str (U,o2)/\b≠p) aa,(Instr.lookup 91 (.map (ϊ k.MS)) (θ #[ι U,ι o2]) ύ).run prog x.w'= .ok (γ p) x.w':=λx=>by
       have:=yU (aF.o.stm.away x.h (λq=>bJ q.1)) (U,o2) ύ;rw[aE.o] at this;exact this
      have cO:=λ(x:qC (λb=>ag b= .str (U,o2)/\b≠p) aa)=>β0 (x.h.blk ap.o.blk (λq=>q.2 rfl))
      clear cw ai cx aN bI;have bU:Hid (∀x,(thJ t.buf.holds).foldl RmS.drain1 {sj with strs:=qB sj.strs (U,o2) {t with buf:=kA t.buf}}=x->sj.drainO (U,o2)=x):=κ (λx e=>by unfold RmS.drainO;rw[cd.o];exact e)
      go_upto_region 13 with fail
      (try rw[bd])
      clear bd bA c1;refine zO (λb=>ag b= .str (U,o2)/\b≠p) aa 12 [(0,ύ),(1,ύ),(2,ύ),(3,ύ),(4,ύ),(5,ύ),(6,ύ),(7,ύ),(8,ύ),(11,ύ),(9,ό),(10,ύ)] ξ ξ ?_
      refine He ?_
      (refine Ql ?_;intro K d)
      go_call Gs t.buf ap.o.ok dj v _ (ap.o.buf.on (qh.drewN aa 1)) as e w4 ⟨v4,rfl,v5,aI,_⟩;obtain⟨ch,t4⟩:=(aF.o.on (qh.drewN aa 1)).strBuf cd.o aE.o (ap.o.on (qh.drewN aa 1)) aI.step' aI.ok
      have bN:Hid (qk (λb=>ag b= .str (U,o2)/\b≠p) aa w4):=κ (((qk.refl _ _).drewN 1).trans (aI.away.mono (λb G=>by
       rcases G with rfl | G
       ·exact⟨ap.o.nb,C6 ap.o.ne⟩
       ·exact ap.o.nv _ G)))
      obtain⟨dO,dF,rfl,aL,cr⟩:=Yu aI.row;have bZ:=κ cr;have cV:=κ ch;have dl:=κ ((aF.o.at.stay (qh.drewN aa 1)).trans t4);have bp:Hid (k.b<aa.heap.size):=κ aF.o.at.nb.2.2;clear cr ch t4 aI;refine⟨_,rfl,qn bN.o,d _ _ ?_⟩;clear d K;obtain⟨L,ao⟩:=ν (thJ t.buf.holds);rw[ao] at bZ bU aL;unfold maxLen at aL;simp only[ao];clear ao
      iterate 1 (refine qz rfl rfl (qn bN.o) ?_;intro K d;go_big_quiet_op;go_big_quiet_on)
      refine qD ?_;clear cN bk cO aw aX;generalize {sj with strs:=qB sj.strs (U,o2) {t with buf:=kA t.buf}}=s4 at *;go_wp2;obtain⟨aA,rfl⟩: ∃aA:World,aA=wr:=⟨_,rfl⟩
      go_loopw [78] (λab wr=> ∃i:Nat,i<=L.length/\ab= ι i/\qL w0 wr k ((L.take i).foldl RmS.drain1 s4) ([aA.heap.size]++(Fn++([w.heap.size]++F)))/\qA ([aA.heap.size]++(Fn++([w.heap.size]++F))) w4 wr/\qk (λb=>b=k.b) w4 wr) (λab _=>L.length-(intOf ab).toNat)
      case atStart=>exact⟨0,τ,rfl,cV.o,qA.refl _ _,qk.refl _ _⟩
      case round=>
       obtain⟨i,hi,rfl,N,J,ac⟩:=hrel;have an:=κ N;have cc:=κ J;have bS:=κ ac;clear N J ac;by_cases hlt2:i<L.length
       ·have du:(i:Int)<(L.length:Int):=by omega
        obtain⟨dH,rfl,c2⟩:=bZ.o wr (λb bf ds=>bS.o.block b ds (by have:=bp.o;have bf:aa.heap.size<=b:=bf;omega)) i hlt2;have dd:Hid (L.take (i+1)=L.take i++[L[i]]):=κ (by rw[A9,ϖ hlt2];rfl);generalize L[i]=id at *;generalize ct:(L.take i).foldl RmS.drain1 s4=s5 at *;have db:=κ ct;clear ct;go_wp2;obtain⟨bi,cv⟩: ∃bi:World,bi=wr:=⟨_,rfl⟩;have dD:=κ cv;obtain rfl:=cv
        go_loopw [82,10] (λab dP wr=> ∃n:Nat,n<=6/\ab= ι n/\qL w0 wr k {s5 with book:=xV s5.book (subIds.take n) id 8} ([aA.heap.size]++(Fn++([w.heap.size]++F)))/\qA ([aA.heap.size]++(Fn++([w.heap.size]++F))) bi wr/\qk (λb=>b=k.b) bi wr) (λab _ _=>6-(intOf ab).toNat)
        case atStart=>exact⟨0,τ,rfl,an.o,qA.refl _ _,qk.refl _ _⟩
        case round=>
         obtain⟨n,cp,rfl,N,J,ac⟩:=hrel;have bY:=κ N;have cb:=κ J;have bQ:=κ ac;obtain⟨aj,ak,aU⟩:=N.blk;have bA:=β0 aU;clear N J ac;by_cases hlt3:n<6
         ·have dw:(n:Int)<6:=by omega
          have de:=κ (JK hlt3)
          go_wp2_with (go_at_call 122;(go_call Zm bY.o (n:Int) id 8 as e cH ⟨rfl,aJ,aQ,aH⟩;have bm:=κ aJ;have bz:=κ aQ;have aT:=κ aH;clear aJ aQ aH))
          go_roundw
          case rel=>exact⟨n+1,τ,by go_num,by have:=bm.o;unfold xV at this ⊢;rw[de.o,Δ];exact this,cb.o.trans bz.o,bQ.o.trans aT.o⟩
          case measure=>simp[intOf];omega
         ·obtain rfl:n=6:=by omega
          have dw: ¬((6:Nat):Int)<6:=by omega
          go_wp2;go_roundw
          case rel=>exact⟨i+1,τ,by go_num,by rw[dd.o,Δ,db.o];exact bY.o,cc.o.trans cb.o,bS.o.trans bQ.o⟩
          case measure=>simp[intOf];omega
       ·obtain rfl:i=L.length:=by omega
        have du: ¬(L.length:Int)<(L.length:Int):=by omega
        go_wp2;go_roundw
        case rel=>exact⟨j+1,τ,by go_num,by rw[br.o,Δ,dc.o];have:=an.o;rw[ϭ] at this;rw[<-bU.o _ rfl] at this;obtain⟨ae,aj,ak,Y⟩:=this;exact⟨ae,aj,ak,Y.sub (λb G=>ϔ _ G)⟩,bx.o.trans ((dl.o.trans cc.o).sub (λb G=>ϔ _ G))⟩
        case measure=>simp[intOf];omega
     ·obtain rfl:j=O.length:=by omega
      have bF: ¬(O.length:Int)<(O.length:Int):=by omega
      go_wp2;go_meet;exact⟨by rw[ba.o];have:=N;rw[ϭ] at this;obtain⟨ae,aj,ak,Y⟩:=this;exact⟨ae,aj,ak,Y.sub (λb G=>ϔ _ G)⟩,(dk.o.trans (ax.o.sub (λb G=>ϔ _ G)))⟩
   ·have ci:2<=w1:=by omega
    obtain⟨T,vp,bL,I⟩:=bl.o;have H:=κ I;obtain⟨l,az⟩:=Ϟ.1 (cY.o ci);obtain⟨p,aN,cn⟩:=I.laneAt az;have cX:=κ cn;have aE:=κ aN;have bV:=κ az;have bK: ¬T k.R= .lane w2:=by rw[(I.all .room).1];simp
    have bJ: ¬T k.ML= .lane w2:=by rw[(I.all .lns).1];simp
    have bh: ¬T w.heap.size= .lane w2:=by rw[(I.law w.heap.size η).1];simp
    have cM:=λ(x:qC (λb=>T b= .lane w2) W1)=>β12 (x.h.blk H.o.blk bK)
    have bu:=λ(x:qC (λb=>T b= .lane w2) W1)=>x.h.blk aC.o bh
    have cQ:=λx=>β0 (bu x);have cP:=λx=>β1 (bu x);clear bu
    have bk: ∀x:qC (λb=>T b= .lane w2) W1,(Instr.lookup 90 (.map (ϊ k.ML)) (ι w2) ύ).run prog x.w'= .ok (γ p) x.w':=λx=>by
     have:=xH (H.o.lnm.away x.h bJ) w2 ύ;rw[aE.o] at this;exact this
    have dr:(w1==0)=ύ:=by simp[e0]
    have bf:(w1==1)=ύ:=by simp[e1]
    have am:Hid (¬w1=0/\ ¬w1=1):=κ ⟨e0,e1⟩;clear I az aN cn e0 e1 cA cB ci
    go_upto_region 2 with fail
    refine zO (λb=>T b= .lane w2) W1 12 [(0,ύ),(1,ύ),(2,ύ),(3,ύ),(4,ύ),(5,ύ),(6,ύ),(7,ύ),(11,ύ),(8,ό),(9,ό),(10,ύ)] ξ ξ ?_
    refine Qs9 ?_
    (refine Ql ?_;intro K d)
    go_call YQ w1 w2 _ as e aS ⟨rfl,md⟩;have ay:Hid (qh W1 aS):=κ ((qh.drewN W1 1).trans md);clear md;refine⟨_,rfl,qn (qk.of_more ay.o),d _ _ ?_⟩;clear d K
    (refine Ql ?_;intro K d)
    go_call Ap (cX.o.on ay.o) (xr w1) (Uc w1) as e aR ⟨⟨v3,rfl,cq⟩,ai,a3⟩;obtain⟨cg,t3⟩:=(H.o.on ay.o).lanePut bV.o aE.o ai a3;have bM:Hid (qk (λb=>T b= .lane w2) W1 aR):=κ ((qk.of_more ay.o).trans a3);have bP:=κ cg;have bx:Hid (qA ([w.heap.size]++F) W1 aR):=κ ((H.o.at.stay ay.o).trans t3);obtain⟨cD,cap,rfl,aL,aO⟩:=Yu cq;have bc:=κ aO;clear cq ai a3 cg t3 aO;refine⟨_,rfl,qn bM.o,d _ _ ?_⟩;clear d K;obtain⟨L,ao⟩:=ν (UI l (xr w1));have ba:Hid (s.drain (w1,w2)={s with lanes:=qB s.lanes w2 (kz l (xr w1)),book:=L.foldl (λb id=>jn b w2 id 8) s.book}):=κ (by unfold RmS.drain RmS.drainL;simp only[ώ am.o.1,ώ am.o.2,bV.o,ao]);rw[ao] at bc aL;unfold maxLen at aL;simp only[ao];clear ao
    iterate 1 (refine qz rfl rfl (qn bM.o) ?_;intro K d;go_big_quiet_op;go_big_quiet_on)
    refine qD ?_;clear cM cQ cP bk;have bp:Hid (k.b<aS.heap.size):=κ (ϗ H.o.at.nb.2.2 ay.o.size);obtain⟨dq,ck⟩:=ν (kz l (xr w1));rw[ck] at bP ba;clear ck;go_wp2
    go_loopw [28] (λab wr=> ∃j:Nat,j<=L.length/\ab= ι j/\qL w0 wr k {s with lanes:=qB s.lanes w2 dq,book:=(L.take j).foldl (λb id=>jn b w2 id 8) s.book} ([w.heap.size]++F)/\qA ([w.heap.size]++F) W1 wr/\qk (λb=>b=k.b) aR wr) (λab _=>L.length-(intOf ab).toNat)
    case atStart=>exact⟨0,τ,rfl,bP.o,bx.o,qk.refl _ _⟩
    case round=>
     obtain⟨j,dv,rfl,N,J,ac⟩:=hrel;have an:=κ N;have ax:=κ J;have bT:=κ ac;clear N J ac;by_cases hlt:j<L.length
     ·have bF:(j:Int)<(L.length:Int):=by omega
      obtain⟨g,rfl,dI⟩:=bc.o wr (λg dJ dt=>bT.o.block g dt (by have:=bp.o;omega)) j hlt;have br:Hid (L.take (j+1)=L.take j++[L[j]]):=κ (by rw[A9,ϖ hlt];rfl);generalize L[j]=id at *
      go_upto_region 5 with fail
      obtain⟨nb,cC,_⟩:=an.o.nb;obtain⟨aj,ak,aU⟩:=an.o.blk;have cL:=κ (ax.o.blk η aC.o);have bh:=cC w.heap.size η;have aw:=λ(x:qC (λb=>b=k.b) wr)=>β0 (x.h.blk aU nb)
      have cR:=λ(x:qC (λb=>b=k.b) wr)=>β1 (x.h.blk cL.o bh)
      refine QN (λb=>b=k.b) wr 8 8 [7] ?_
      refine Qs7 ?_
      (refine Ql ?_;intro K d)
      go_call Zm (an.o.on (qh.drewN wr 1)) w2 id 8 as e cH ⟨rfl,aJ,aQ,aH⟩;have bm:=κ aJ;have bz:=κ aQ;have aT:Hid (qk (λb=>b=k.b) wr cH):=κ (((qk.refl _ _).drewN 1).trans aH);clear aJ aQ aH;refine⟨_,rfl,qn aT.o,d _ _ ?_⟩;clear d K aw cR nb cC bh;refine qD ?_;go_wp2;go_roundw
      case rel=>exact⟨j+1,τ,by go_num,by rw[br.o,Δ];exact bm.o,ax.o.trans ((an.o.stay (qh.drewN wr 1)).trans bz.o),bT.o.trans aT.o⟩
      case measure=>simp[intOf];omega
     ·obtain rfl:j=L.length:=by omega
      have bF: ¬(L.length:Int)<(L.length:Int):=by omega
      go_wp2;go_meet;exact⟨by rw[ba.o];have:=an.o;rw[ϭ] at this;exact this,ax.o⟩
 case rest=>
  obtain⟨aK,J⟩:=hcut;have aD:=κ aK;have df:=κ J;have bj:=κ (J.blk η aC.o);clear aK J dp;obtain⟨av,bg⟩:=ν (s.drain (w1,w2));rw[bg] at aD;have dr:=β0 bj.o;have bf:=β1 bj.o;obtain⟨aq,bD⟩:=ν ((kB (w1,w2)).1.1);obtain⟨ar,bE⟩:=ν ((kB (w1,w2)).1.2);obtain⟨ok,bG⟩:=ν ((kB (w1,w2)).2);have bR:=κ (F5 w1 w2 ⟨cA,cB⟩ wc);rw[bD,bE,bG] at bR;have bb:Hid (s.goesR (w1,w2)=(!ok||(qm s.ret (aq,ar)).getD ύ)):=κ (by unfold RmS.goesR;rw[bG,<-bD,<-bE]);have bn:Hid (av.ret=s.ret):=κ (by rw[<-bg];exact An s _);have bo:=κ bg;clear bg bD bE bG;have bq:=κ (ca.o.trans (df.o.sub (F':=F) (λb G=>ϔ _ G)))
  go_upto_region 24 with (go_at_call 127;(go_call bR.o as e w5 ⟨rfl,cz⟩;have dh:=κ cz;clear cz))
  obtain⟨W6,be⟩:=ν (w5.alloc (.cells #[ι aq,ι ar] 37));have ah:Hid (qh wc W6):=κ (by rw[<-be];exact dh.o.al _);have cK:Hid (W6.heap[w5.heap.size]? =ϊ (.cells #[ι aq,ι ar] 37 (0,0))):=κ (by rw[<-be];exact qp w5 _)
  (try rw[be])
  clear be;obtain⟨T,vp,bL,I⟩:=aD.o;have H:=κ I;clear I;have aV:=λ(x:qu W6)=>β8 (qj (ah.o.trans x.h) H.o.blk)
  have bv:=λ(x:qu W6)=>qj (ah.o.trans x.h) bj.o
  have aY:=λx=>β0 (bv x);have aZ:=λx=>β1 (bv x);clear bv
  have bw:=λ(x:qu W6)=>qj x.h cK.o
  have aw:=λx=>β0 (bw x);have aX:=λx=>β1 (bw x);clear bw
  have aW: ∀x:qu W6,(Instr.lookup 87 (.map (ϊ k.M1)) (θ #[ι aq,ι ar]) ύ).run prog x.w'= .ok (μ ((qm av.ret (aq,ar)).getD ύ)) x.w':=λx=>Kz (H.o.retm.more (ah.o.trans x.h)) (aq,ar)
  rw[bn.o] at aW;obtain⟨g,cm⟩:=ν ((qm s.ret (aq,ar)).getD ύ);rw[cm] at aW bb;clear cm;cases ok with
  | false=>
   have am:Hid (s.endW (w1,w2)={av with ret:=qB av.ret (w1,w2) ό}):=κ (by unfold RmS.endW;rw[bb.o,bo.o,bn.o];rfl);refine qG _ (qh.refl _) ξ ξ ?_
   repeat (go_big_quiet_step (fail))
   refine wpQuiet_nil ?_;intro _ aP;obtain⟨Y,rfl⟩:=aP
   go_upto_region 25 with fail
   obtain⟨W7,au⟩:=ν (Y.w');have ad:Hid (qh W6 W7):=κ (by rw[<-au];exact Y.h)
   (try rw[au])
   clear au aW aw aX;have cS: ∀x:qu W7,x.w'.cell? ⟨k.R,8,ϋ⟩=ϊ (.map (ϊ k.M1)):=λx=>aV ⟨_,ad.o.trans x.h⟩
   have cT: ∀x:qu W7,x.w'.cell? ⟨w.heap.size,0,ϋ⟩=ϊ (ι w1):=λx=>aY ⟨_,ad.o.trans x.h⟩
   have cU: ∀x:qu W7,x.w'.cell? ⟨w.heap.size,1,ϋ⟩=ϊ (ι w2):=λx=>aZ ⟨_,ad.o.trans x.h⟩
   clear aV aY aZ;refine Qn W7 5 6 [5] ?_
   refine Qq5 ?_
   have aG:=κ (H.o.on (ah.o.trans (ad.o.trans (qh.drewN W7 1))));obtain⟨w9,N,aM,ac,_⟩:=aG.o.retm.update UV underlying87 (w1,w2) ό;unfold kO at N;have af:=κ (aG.o.retMap aM ac);have ae:=κ (H.o.at.stay (ah.o.trans (ad.o.trans (qh.drewN W7 1))));clear aM ac
   (refine Qe ?_;intro K d)
   refine d _ _ ?_;clear d K;refine qD ?_;go_wp2
   (refine bodyPost_end (v:= .tuple #[]) ?re1 rfl ?_;(case re1=>simp[results,results78,go_sem]))
   exact⟨rfl,by rw[am.o];obtain⟨ae,aj,ak,Y⟩:=af.o.1;exact⟨ae,aj,ak,Y.sub (λb G=>ϔ _ G)⟩,bq.o.trans ((ae.o.trans af.o.2).sub (λb G=>ϔ _ G))⟩
  | true=>
   cases g with
   | true=>
    have am:Hid (s.endW (w1,w2)={av with ret:=qB av.ret (w1,w2) ό}):=κ (by unfold RmS.endW;rw[bb.o,bo.o,bn.o];rfl);refine qG _ (qh.refl _) ξ ξ ?_
    repeat (go_big_quiet_step (fail))
    refine wpQuiet_nil ?_;intro _ aP;obtain⟨Y,rfl⟩:=aP
    go_upto_region 25 with fail
    obtain⟨W7,au⟩:=ν (Y.w');have ad:Hid (qh W6 W7):=κ (by rw[<-au];exact Y.h)
    (try rw[au])
    clear au aW aw aX;have cS: ∀x:qu W7,x.w'.cell? ⟨k.R,8,ϋ⟩=ϊ (.map (ϊ k.M1)):=λx=>aV ⟨_,ad.o.trans x.h⟩
    have cT: ∀x:qu W7,x.w'.cell? ⟨w.heap.size,0,ϋ⟩=ϊ (ι w1):=λx=>aY ⟨_,ad.o.trans x.h⟩
    have cU: ∀x:qu W7,x.w'.cell? ⟨w.heap.size,1,ϋ⟩=ϊ (ι w2):=λx=>aZ ⟨_,ad.o.trans x.h⟩
    clear aV aY aZ;refine Qn W7 5 6 [5] ?_
    refine Qq5 ?_
    have aG:=κ (H.o.on (ah.o.trans (ad.o.trans (qh.drewN W7 1))));obtain⟨w9,N,aM,ac,_⟩:=aG.o.retm.update UV underlying87 (w1,w2) ό;unfold kO at N;have af:=κ (aG.o.retMap aM ac);have ae:=κ (H.o.at.stay (ah.o.trans (ad.o.trans (qh.drewN W7 1))));clear aM ac
    (refine Qe ?_;intro K d)
    refine d _ _ ?_;clear d K;refine qD ?_;go_wp2
    (refine bodyPost_end (v:= .tuple #[]) ?re2 rfl ?_;(case re2=>simp[results,results78,go_sem]))
    exact⟨rfl,by rw[am.o];obtain⟨ae,aj,ak,Y⟩:=af.o.1;exact⟨ae,aj,ak,Y.sub (λb G=>ϔ _ G)⟩,bq.o.trans ((ae.o.trans af.o.2).sub (λb G=>ϔ _ G))⟩
   | false=>
    have am:Hid (s.endW (w1,w2)=av):=κ (by unfold RmS.endW;rw[bb.o,bo.o];rfl);refine qG _ (qh.refl _) ξ ξ ?_
    repeat (go_big_quiet_step (fail))
    refine wpQuiet_nil ?_;intro _ aP;obtain⟨Y,rfl⟩:=aP;go_wp2
    (refine bodyPost_end (v:= .tuple #[]) ?re3 rfl ?_;(case re3=>simp[results,results78,go_sem]))
    have dn:=H.o.at.stay (ah.o.trans Y.h);exact⟨rfl,by rw[am.o];exact⟨_,_,_,(H.o.on (ah.o.trans Y.h)).sub (λb G=>ϔ _ G)⟩,bq.o.trans (dn.sub (λb G=>ϔ _ G))⟩
def NoU (w:World) (b:Nat):Prop:= ∀o k n,k≠IntKind.i64->w.cell? ⟨b,o,ϋ⟩≠ϊ (.int k n)
section
variable {S:Nat->Prop} {w w':World}
def SlI.noU {k:IntKind} (h:SlI k w v l) (O:k≠ .i64) (a:qk S w w') (U: ∀b,S b->NoU w b):SlI k w' v l:=by
 obtain⟨Y,cap,H,I,J,N⟩:=h;refine⟨Y,cap,H,I,λi hi=> ?_,N⟩;obtain⟨b,aa,e,d,G⟩:=J i hi;exact⟨b,aa,e,ϗ d a.size,by rw[a.cells b _ d (λs=>U b s _ _ _ O G)];exact G⟩
def SlP.noU {α:Type} {n:Nat} {R:qO α} {l:List α} (h:SlP n R w v l) (a:qk S w w') (af: ∀b,S b->NoU w b)
  (ae: ∀cs x,R w cs x->R w' cs x/\ ∃j k m,j<n/\k≠IntKind.i64/\cs[j]? =ϊ (.int k m)):SlP n R w' v l:=by
 obtain⟨ah,cap,H,I,J,N⟩:=h;refine⟨ah,cap,H,I,λi hi=> ?_,N⟩;obtain⟨b,ai,cs,e,d,ac,G,O⟩:=J i hi;obtain⟨U,j,k,m,Y,ab,ad⟩:=ae cs _ O;refine⟨b,ai,cs,e,ϗ d a.size,ac,λag aa=> ?_,U⟩;rw[a.cells b _ d (λs=>af b s _ _ _ ab ((G j Y).trans ad))];exact G ag aa
def Je.noU {x:Itm} (h:Je w cs x) (a:qk S w w') (d: ∀b,S b->NoU w b):Je w' cs x/\ ∃j k m,j<17/\k≠IntKind.i64/\cs[j]? =ϊ (.int k m):=by
 obtain⟨vb,H,I,vo,rfl,s,G⟩:=h;refine⟨⟨vb,H,I,vo,rfl,⟨s.bl.noU a d ?_,⟨s.ms.asks.noU a d ?_,s.ms.lost.noU ζ a d⟩,s.bo.noU ζ a d⟩,G⟩,10,_,_,ζ, ?_,rfl⟩
 ·rintro cs x ⟨rfl,h⟩;exact⟨⟨rfl,h⟩,0,_,_,ζ,ζ,rfl⟩
 ·rintro cs x ⟨rfl,h⟩;exact⟨⟨rfl,h⟩,0,_,_,ζ,ζ,rfl⟩
 ·decide
def Aa {l:List Itm} (h:SlP 17 Je w v l) (a:qk S w w') (d: ∀b,S b->NoU w b):SlP 17 Je w' v l:=h.noU a d λ_ _ G=>G.noU a d
end
def Ug {c:qY} (G:c.1<=31):(qI c).1.bl.length<=100000:=by
 have d: ∀(r:Rep) (s:RdS),r.bl.length<=100000->(vI r s).1.bl.length<=100000:=by
  intro r s h;unfold vI;split
  ·exact h
  ·exact Ϻ _
 unfold qI;split
 ·decide
 ·split
  ·exact d _ _ (by simp only;rw[wu];omega)
  ·split
   ·exact d _ _ (by simp only;rw[wu];omega)
   ·decide
def Dt (U:Byt b) (h:(zv b).2=0):(zv b).1.length<=200/\ ∀x∈(zv b).1,Hg x:=by
 have d:(jT b).2=0:=by
  cases G:decide ((jT b).2=0) with
  | true=>exact Ϛ G
  | false=>
   have:=B9 G;unfold zv at h;rw[ώ this] at h;exact ϧ h this
 obtain⟨J,_,_,N⟩:=JN U (k:=(jT b).1) (by rw[<-d]);obtain⟨_,O,_⟩:=Fo J;have Y:(zv b).1=(jT b).1.map λc=>(qx c).1:=by
  unfold zv at h ⊢;rw[ϒ d] at h ⊢;split at h
  ·rename_i H;rw[ϒ H]
  ·rename_i H;exact ϧ h H
 generalize (jT b).1=l at *;rw[Y];refine⟨?_,λx aa=> ?_⟩
 ·rw[C3];by_cases d:0<l.length
  ·exact(Zb N 0 d).2
  ·omega
 ·obtain⟨c,G,rfl⟩:=C1.1 aa;obtain⟨ab,_,ac⟩:=(yo c).1 (O c G);have I:=Uh (c:=c) τ;unfold qx;split
  ·exact⟨Ug ab,Ϻ _,Ϻ _,Ϻ _⟩
  split
  ·exact⟨Ϻ _,Ϻ _,Ϻ _,by show c.2.2.1.length<=1000000;omega⟩
  ·exact⟨Ϻ _,I.1,I.2,Ϻ _⟩
def RmX.ints (h:RmX T w0 w k vp vr s F) (m:qh w w') {N:IntKind} (ac:SlI N w' v L) (aa: ∀q,v.ownBlock=ϊ q->w.heap.size<=q):
  ∃G cap Fn,v= δ G L.length cap/\(L.length:Int)<=9223372036854775807/\RmX T w0 w' k vp vr s (Fn++F)/\ ∀w'':World,(∀b∈Fn,w''.heap[b]? =w'.heap[b]?)-> ∀i (hi:i<L.length),∃b H,G=ϊ ⟨b,H,ϋ⟩/\w''.cell? ⟨b,H+i,ϋ⟩=ϊ (.int N L[i]):=by
 obtain⟨G,cap,rfl,Y,ab,_⟩:=ac;refine⟨G,cap,match G with | some a=>if w.heap.size<=a.block/\a.block<w'.heap.size then [a.block] else [] | none=>[],rfl,Y,h.adds m (λb d=> ?_),λw'' J i hi=> ?_⟩
 ·cases G with
  | none=>simp at d
  | some a=>
   simp only at d;split at d
   ·rename_i I;simp at d;subst d;exact I
   ·simp at d
 ·obtain⟨b,H,rfl,I,O⟩:=ab i hi;have U:=aa b rfl;simp only[U,I,and_self,Ψ] at J;have e:=J b η;refine⟨b,H,rfl, ?_⟩;rw[World.cell?_of_block e,O];simp[hi]
def UZ (n:Int) (w:World):Calls prog 89 #[ι n] w λe w'=>e= .returned (μ (je n))/\w'=w:=by
 have G:Hid (je n=decide (0<=n/\n<3)):=κ rfl;by_cases h1:0<=n
 ·by_cases h2:n<3
  ·have d:je n=ό:=by rw[G.o];simp[h1,h2]
   rw[d];clear d G
   go_enter func89,ntmps89
   go_wp2;go_ret;exact⟨rfl,rfl⟩
  ·have d:je n=ύ:=by rw[G.o];simp[h2]
   rw[d];clear d G
   go_enter func89,ntmps89
   go_wp2;go_ret;exact⟨rfl,rfl⟩
 ·have d:je n=ύ:=by rw[G.o];simp[h1]
  rw[d];clear d G
  go_enter func89,ntmps89
  go_wp2;go_ret;exact⟨rfl,rfl⟩
def Yh (s:RmS):Prop:= ∀x sb,qm s.tab.u x=ϊ sb->sb.2.1=ό-> ∀n,je n=ό->(qm s.strs (sb.2.2,n)).isSome=ό
structure yq (s s':RmS):Prop where
 tab:s'.tab=s.tab
 lanes:s'.lanes=s.lanes
 strs: ∀x,(qm s'.strs x).isSome=(qm s.strs x).isSome
def yq.refl (s:RmS):yq s s:=⟨rfl,rfl,λ_=>rfl⟩
def yq.trans {a b c:RmS} (h:yq a b) (k:yq b c):yq a c:=⟨k.tab.trans h.tab,k.lanes.trans h.lanes,λx=>(k.strs x).trans (h.strs x)⟩
def We (s:RmS) (x:Int):yq s (s.tell1 x):=by
 unfold RmS.tell1;cases qm s.tab.u x with
 | none=>exact yq.refl s
 | some sb=>
  simp only;split
  ·cases qm s.lanes x with
   | none=>exact yq.refl s
   | some l=>
    simp only;split
    ·cases ht:qm s.strs (sb.2.2,l.cur) with
     | none=>exact yq.refl s
     | some t=>
      refine⟨rfl,rfl,λo=> ?_⟩;simp only[qE];split
      ·rename_i e;rw[e,ht];rfl
      ·rfl
    ·exact yq.refl s
  ·exact yq.refl s
def JJ (L:List Int): ∀s:RmS,yq s (L.foldl RmS.tell1 s):=by
 induction L with
 | nil=>exact yq.refl
 | cons x L ih=>exact λs=>(We s x).trans (ih _)
def Wd (L:List Int): ∀s:RmS,yq s (L.foldl RmS.tellS s):=by
 induction L with
 | nil=>exact yq.refl
 | cons x L ih=>exact λs=>(JJ _ s).trans (ih _)
def yq.subs (h:yq s s') (k:zu s):zu s':=⟨by rw[h.tab];exact k.keys,by rw[h.tab,h.lanes];exact k.lane,by rw[h.tab];exact k.few⟩
def yq.pub (h:yq s s') (k:Yh s):Yh s':=λx I d G n H=>by
 rw[h.tab] at d;rw[h.strs];exact k x I d G n H
section
variable {w0 w w':World} {k:RmK} {s:RmS} {F F':List Nat}
def qL.noU (h:qL w0 w k s F):NoU w k.R:=by
 obtain⟨T,vp,N,x⟩:=h;obtain⟨xs,d,_⟩:=(x.all .pks).1.row;obtain⟨O,G,_⟩:=(x.all .reqs).1.row;obtain⟨J,c1,rfl⟩:=j7 d;obtain⟨o2,c2,rfl⟩:=j7 G;intro o I n H;rw[cell_of_row w k.R o _ _ _ x.blk];unfold yj
 match o with
 | 0 | 1 | 2 | 3 | 4 | 5 | 6 | 7 | 8 | 9 | 10 | 11 | 12 | 13 | 14 | 15 | 16 | 17 | 18 | 19 | 20=>simp;try (intro e;exact ϧ e.symm H)
 | n+21=>simp
def OU (h:qL w0 w k s F) (bz:zu s) (ao:Yh s) (b:List Int) (v:Value) (bK:SlI .u8 w v b) (d:Byt b) (cq:b.length<=1000000) (cn:0<=s.cnt.malf/\s.cnt.malf<=1000000000/\0<=s.cnt.told/\s.cnt.told<=1000000000):
  Calls prog 130 #[γ k.R,v] w λe w'=>e= .returned (.tuple #[])/\qL w0 w' k (s.tell b) F/\qA F w w':=by
 have av:=κ h;have ax:=κ (AU b v w bK d cq);have am:=κ (Dt (b:=b) d);have aL:=κ bz;have bY:=κ ao;obtain⟨cR,cS,t0,t1⟩:=cn;obtain⟨bo,aV⟩:=ν ((zv b).2);have bf:=κ aV;rw[aV] at ax am;obtain⟨cX,cI,rfl,_⟩:=bK;clear h bz ao aV d;by_cases he:bo=0
 ·subst he;have aj:Hid (s.tell b=(xR (zv b).1).foldl RmS.tellS {s with cnt:={s.cnt with told:=s.cnt.told+1}}):=κ (by unfold RmS.tell;rw[ϒ bf.o]);obtain⟨bE,bt⟩:=ν ((zv b).1);rw[bt] at ax am aj;clear bt;obtain⟨bp,bq⟩:=am.o rfl;have bU:=κ bp;have bV:=κ bq;clear bp bq am
  go_enter func130,ntmps130
  go_upto_region 3 with (go_at_call 188;(go_call ax.o as e w1 ⟨bM,rfl,s1,U⟩;have bl:=κ s1;have ci:=κ U;have ab:=κ (av.o.on U);have aC:=κ (av.o.stay U);clear s1 U))
  obtain⟨vp,cr,aa⟩:=ab.o.blk;have cG:=β19 aa;have cK:=ql aa 19;clear aa;have ac:=κ (ab.o.cell 19 (ι (s.cnt.told+1)) (s':={s with cnt:={s.cnt with told:=s.cnt.told+1}}) (λ_ _=>rfl) ⟨rfl,rfl,rfl,rfl,rfl,rfl,rfl,rfl,rfl⟩);have aS:=κ (Aa bl.o (qk.set (S:=λb=>b=k.R) (qk.refl _ _) (p:=⟨k.R,19,ϋ⟩) rfl (ι (s.cnt.told+1))) (λb d=>by rw[d];exact ab.o.noU));have bn:=κ (aC.o.trans ac.o.2);obtain⟨W2,br⟩:=ν (w1.setCell ⟨k.R,19,ϋ⟩ (ι (s.cnt.told+1)));rw[br] at ac aS bn;obtain⟨st,aH⟩: ∃st:RmS,{s with cnt:={s.cnt with told:=s.cnt.told+1}}=st:=⟨_,rfl⟩;have aQ:=κ ac.o.1;rw[aH] at aQ aj;have cd:Hid (zu st):=κ (by rw[<-aH];exact⟨aL.o.keys,aL.o.lane,aL.o.few⟩);have bZ:Hid (Yh st):=κ (by rw[<-aH];exact bY.o);have bT:=κ (Gt bE bM W2 aS.o (by have:=bU.o;omega) bV.o);generalize xR bE=A at *;clear aH ac aS ab aC bl ci
  go_wp2_with (first | ((try rw[br]);(go_at_call 189;(go_call bT.o as e ct ⟨cZ,rfl,⟨s3,bH⟩,aY⟩;obtain⟨cy,da,df,bO⟩:=aQ.o;obtain⟨cT,cap,au,rfl,cP,aq,bw⟩:=bO.ints aY s3 bH;have cb:=κ bw;have bR:=κ aq.at;have cj:=κ (bn.o.trans (aQ.o.stay aY));clear s3 bH aY bO aq bw))))
  go_loopw [41] (λag wr=> ∃j:Nat,j<=A.length/\ag= ι j/\qL w0 wr k ((A.take j).foldl RmS.tellS st) (au++F)/\qA (au++F) ct wr) (λag _=>A.length-(intOf ag).toNat)
  case atStart=>exact⟨0,τ,rfl,bR.o,qA.refl _ _⟩
  case round=>
   obtain⟨j,cO,rfl,ap,J⟩:=hrel;have aw:=κ ap;have aP:=κ J;clear ap J;by_cases hlt:j<A.length
   ·have cp:(j:Int)<(A.length:Int):=by omega
    obtain⟨cD,cV,rfl,cM⟩:=cb.o wr (λb d=>aP.o.2 b (by simp[d])) j hlt;have cg:Hid (A.take (j+1)=A.take j++[A[j]]):=κ (by rw[A9,ϖ hlt];rfl);generalize A[j]=src at *;have bm:=κ (Wd (A.take j) st);generalize bB:(A.take j).foldl RmS.tellS st=sj at *;have ce:=κ bB;clear bB;obtain⟨cB,dd,di,bc⟩:=aw.o;have aN:=κ (bm.o.subs cd.o);have bi:=κ (Ln bc.tab src aN.o.keys aN.o.few);obtain⟨L,aD⟩:=ν (prR (yz src) sj.tab.u);have bX:Hid (∀x∈L,∃bb l,qm sj.tab.u x=ϊ bb/\qm sj.lanes x=ϊ l):=κ (λx bC=>by rw[<-aD] at bC;exact Ke aN.o bC);have bW:Hid (sj.tellS src=L.foldl RmS.tell1 sj):=κ (by unfold RmS.tellS;rw[aD]);rw[aD] at bi;have cl:=β11 bc.blk;clear aD bc
    go_wp2_with (go_at_call 190;(go_call bi.o as e w4 ⟨⟨vb,rfl,bJ,bI⟩,aZ⟩;obtain⟨cz,db,dg,aq⟩:=aw.o;obtain⟨cU,cH,bd,rfl,cQ,bP,bx⟩:=aq.ints aZ bJ bI;have cc:=κ bx;have bS:=κ bP.at;have ck:=κ (aP.o.trans (aw.o.stay aZ));clear bJ bI aZ aq bP bx))
    go_loopw [52] (λag wr=> ∃i:Nat,i<=L.length/\ag= ι i/\qL w0 wr k ((L.take i).foldl RmS.tell1 sj) (bd++(au++F))/\qA (bd++(au++F)) w4 wr) (λag _=>L.length-(intOf ag).toNat)
    case atStart=>exact⟨0,τ,rfl,bS.o,qA.refl _ _⟩
    case round=>
     obtain⟨i,hi,rfl,ap,J⟩:=hrel;have N:=κ ap;have ah:=κ J;clear ap J;by_cases hlt2:i<L.length
     ·have co:(i:Int)<(L.length:Int):=by omega
      obtain⟨cE,cW,rfl,cN⟩:=cc.o wr (λb d=>ah.o.2 b (by simp[d])) i hlt2;have aA:Hid (L.take (i+1)=L.take i++[L[i]]):=κ (by rw[A9,ϖ hlt2];rfl);obtain⟨bb,l,aG,aF⟩:=bX.o _ (Ϣ hlt2);generalize L[i]=x at *;have aT:=κ (JJ (L.take i) sj);generalize bA:(L.take i).foldl RmS.tell1 sj=si at *;have ay:=κ bA;clear bA;rw[<-aT.o.tab] at aG;rw[<-aT.o.lanes] at aF;obtain⟨cA,dc,dh,ar⟩:=N.o;have O:=κ ar;have ca:=κ (aT.o.pub (bm.o.pub bZ.o));obtain⟨pl,bv,bs⟩:=ar.laneAt aF;have ae:=κ (NT ar.tab x);have bg:=κ bs;have bh:=κ aF;have aM:=κ aG;rw[aG] at ae;simp only[ϩ] at ae;have cl:=β11 ar.blk;obtain⟨s1,s2,s3⟩:=bb;simp only at ae
      have aK:Hid (∀w',qh wr w'->(Instr.lookup 90 (.map (ϊ k.ML)) (ι x) ύ).run prog w'= .ok (γ pl) w'):=κ (λw' m=>by
       have:=xH (O.o.lnm.more m) x ύ;rw[bv] at this
       exact this)
      clear ar aF bs aG bv;cases s2 with
      | false=>
       have ad:Hid (si.tell1 x=si):=κ (by unfold RmS.tell1;rw[aM.o];rfl)
       go_wp2_with (go_at_call 90;(go_call ae.o as e w5 ⟨rfl,G⟩;have H:=κ G;clear G))
       go_roundw
       case rel=>exact⟨i+1,τ,by go_num,by rw[aA.o,Δ,ay.o];show qL w0 _ k (si.tell1 x) _;rw[ad.o];exact N.o.on H.o,ah.o.trans (N.o.stay H.o)⟩
       case measure=>simp[intOf];omega
      | true=>
       obtain⟨bG,aX⟩:=ν (l.wanted);obtain⟨I,aW⟩:=ν (l.cur);obtain⟨bF,bu⟩:=ν (l.tgt);have az:=κ (λw m=>Zc (bg.o.on (w':=w) m));rw[aX,aW,bu] at az;have ad:Hid (si.tell1 x=if bG&&je I then (match qm si.strs (s3,I) with | none=>si | some t=>{si with strs:=qB si.strs (s3,I) {t with askedOf:=ό}}) else si):=κ (by unfold RmS.tell1;rw[aM.o];simp only[bh.o,Ψ];rw[aX,aW];rfl);clear aX aW bu bg bh;cases bG with
       | false=>
        have ak:Hid (si.tell1 x=si):=κ (by rw[ad.o];rfl)
        go_wp2_with (first | (go_at_call 90;(go_call ae.o as e w5 ⟨rfl,G⟩;have H:=κ G;have aU:=β12 (qj G O.o.blk);have ba:=aK.o w5 G;clear G)) | (go_at_call 67;(go_call az.o _ H.o as e w6 ⟨rfl,Y⟩;have af:=κ Y;clear Y)) | (go_at_call 89;(go_call aO.o _ as e bN ⟨rfl,rfl⟩)))
        go_roundw
        case rel=>exact⟨i+1,τ,by go_num,by rw[aA.o,Δ,ay.o];show qL w0 _ k (si.tell1 x) _;rw[ak.o];exact N.o.on ((H.o.trans af.o).al _),ah.o.trans (N.o.stay ((H.o.trans af.o).al _))⟩
        case measure=>simp[intOf];omega
       | true=>
        obtain⟨bL,aI⟩:=ν (je I);have aO:Hid (∀w,Calls prog 89 #[ι I] w λe w'=>e= .returned (μ bL)/\w'=w):=κ (λw=>by rw[<-aI];exact UZ I w);rw[aI] at ad;have ch:=κ aI;clear aI;cases bL with
        | false=>
         have ak:Hid (si.tell1 x=si):=κ (by rw[ad.o];rfl)
         go_wp2_with (first | (go_at_call 90;(go_call ae.o as e w5 ⟨rfl,G⟩;have H:=κ G;have aU:=β12 (qj G O.o.blk);have ba:=aK.o w5 G;clear G)) | (go_at_call 67;(go_call az.o _ H.o as e w6 ⟨rfl,Y⟩;have af:=κ Y;clear Y)) | (go_at_call 89;(go_call aO.o _ as e bN ⟨rfl,rfl⟩)))
         go_roundw
         case rel=>exact⟨i+1,τ,by go_num,by rw[aA.o,Δ,ay.o];show qL w0 _ k (si.tell1 x) _;rw[ak.o];exact N.o.on ((H.o.trans af.o).al _),ah.o.trans (N.o.stay ((H.o.trans af.o).al _))⟩
         case measure=>simp[intOf];omega
        | true=>
         obtain⟨t,J⟩:=Ϟ.1 (ca.o x _ aM.o rfl I ch.o);have ak:Hid (si.tell1 x={si with strs:=qB si.strs (s3,I) {t with askedOf:=ό}}):=κ (by rw[ad.o];simp only[J];rfl);obtain⟨p,cx,de,ao,bD⟩:=O.o.strAt J;have cf:=κ J;have bj:=κ ao;have bk:=κ bD;clear J ao bD ad
         go_upto_region 14 with (first | (go_at_call 90;(go_call ae.o as e w5 ⟨rfl,G⟩;have H:=κ G;have aU:=β12 (qj G O.o.blk);have ba:=aK.o w5 G;clear G)) | (go_at_call 67;(go_call az.o _ H.o as e w6 ⟨rfl,Y⟩;have af:=κ Y;clear Y)) | (go_at_call 89;(go_call aO.o _ as e bN ⟨rfl,cm⟩;obtain rfl:=cm.symm)))
         obtain⟨ai,aE⟩:=ν (w6.alloc (.cells #[ι I,ι bF] 103));have aR:Hid (qh wr ai):=κ (by rw[<-aE];exact(H.o.trans af.o).al _);have bQ:Hid (ai.heap[w6.heap.size]? =ϊ (.cells #[ι I,ι bF] 103 (0,0))):=κ (by rw[<-aE];exact qp w6 _)
         (try rw[aE])
         clear aE aU ba;have cu:=λ(x:qu ai)=>β13 (qj (aR.o.trans x.h) O.o.blk)
         have cw:=λ(x:qu ai)=>β0 (qj x.h bQ.o)
         have cv: ∀x:qu ai,(Instr.lookup 91 (.map (ϊ k.MS)) (θ #[ι s3,ι I]) ύ).run prog x.w'= .ok (γ p) x.w':=λx=>by
          have:=yU (O.o.stm.more (aR.o.trans x.h)) (s3,I) ύ;rw[bj.o] at this;exact this
         refine Qn ai 11 12 [9,11] ?_
         refine Qq9 ?_
         (refine Ql ?_;intro K an)
         refine⟨qo ρ,an _ _ ?_⟩;clear an K
         refine Qq1 ?_
         have aB:=κ (aR.o.dr 1);have aJ:=κ (qj aB.o bk.o.blk);have cY:=β7 aJ.o;have cL:=ql aJ.o 7;have be:=κ ((O.o.on aB.o).strSet (t':={t with askedOf:=ό}) cf.o bj.o (bk.o.on aB.o) (qk.set (S:=λb=>b=p) (qk.refl _ _) (p:=⟨p,7,ϋ⟩) rfl (μ ό)) (qF (qt aJ.o 7 _) rfl) rfl)
         (refine Qe ?_;intro K an)
         refine an _ _ ?_;clear an K;refine qD ?_;go_wp2;go_roundw
         case rel=>exact⟨i+1,τ,by go_num,by rw[aA.o,Δ,ay.o];show qL w0 _ k (si.tell1 x) _;rw[ak.o];exact be.o.1,ah.o.trans ((N.o.stay aB.o).trans be.o.2)⟩
         case measure=>simp[intOf];omega
     ·obtain rfl:i=L.length:=by omega
      have co: ¬(L.length:Int)<(L.length:Int):=by omega
      go_wp2;go_roundw
      case rel=>exact⟨j+1,τ,by go_num,by rw[cg.o,Δ,ce.o];show qL w0 _ k (sj.tellS src) _;rw[bW.o];have:=N.o;rw[ϭ] at this;exact this.sub (λb d=>ϔ _ d),ck.o.trans (ah.o.sub (λb d=>ϔ _ d))⟩
      case measure=>simp[intOf];omega
   ·obtain rfl:j=A.length:=by omega
    have cp: ¬(A.length:Int)<(A.length:Int):=by omega
    go_wp2
    (refine bodyPost_end (v:= .tuple #[]) ?re1 rfl ?_;(case re1=>simp[results,results130,go_sem]))
    exact⟨rfl,by rw[aj.o];have:=aw.o;rw[ϭ] at this;exact this.sub (λb d=>ϔ _ d),cj.o.trans (aP.o.sub (λb d=>ϔ _ d))⟩
 ·have aj:Hid (s.tell b={s with cnt:={s.cnt with malf:=s.cnt.malf+1}}):=κ (by unfold RmS.tell;rw[bf.o,ώ he]);have cC:(bo != 0)=ό:=by simp[he]
  clear he am
  go_enter func130,ntmps130
  go_upto_region 2 with (go_at_call 188;(go_call ax.o as e w1 ⟨bM,rfl,s1,U⟩;have ab:=κ (av.o.on U);have aC:=κ (av.o.stay U);clear s1 U))
  obtain⟨vp,cr,aa⟩:=ab.o.blk;have cF:=β17 aa;have cJ:=ql aa 17;clear aa;have ac:=κ (ab.o.cell 17 (ι (s.cnt.malf+1)) (s':={s with cnt:={s.cnt with malf:=s.cnt.malf+1}}) (λ_ _=>rfl) ⟨rfl,rfl,rfl,rfl,rfl,rfl,rfl,rfl,rfl⟩);go_wp2
  (refine bodyPost_ret (v:= .tuple #[]) ?re2 rfl ?_;(case re2=>simp[results,results130,go_sem]))
  exact⟨rfl,by rw[aj.o];exact ac.o.1,aC.o.trans ac.o.2⟩
end
section
variable {T:Nat->Tg} {w0 w w':World} {k k':RmK} {vp vr vp' vr':Value} {s s':RmS} {F:List Nat} {t1 t2:Tg}
def RmX.own2 (h:RmX T w0 w k vp vr s F) (H:t1≠ .no/\t1≠ .data) (J:t2≠ .no/\t2≠ .data) (a:qk (λb=>T b=t1∨T b=t2) w w')
  (aa:k'.Holds (xk T t1 w w') w' vp' vr' s' t1) (ab:k'.Holds (xk T t1 w w') w' vp' vr' s' t2)
  (rest: ∀u,u≠t1->u≠t2->u≠ .no->k.Holds (xk T t1 w w') w' vp vr s u->k'.Holds (xk T t1 w w') w' vp' vr' s' u):RmX (xk T t1 w w') w0 w' k' vp' vr' s' F/\qA F w w':=by
 have I:=h.fresh
 have Y: ∀b,(T b=t1∨T b=t2)->w0.heap.size<=b:=λb d=>h.ge b (by
  rcases d with d | d
  ·rw[d];exact H.1
  ·rw[d];exact J.1)
 refine⟨⟨λu=> ?_,λb d=> ?_,λb d=> ?_,a.to_more h.more Y⟩,a.size,λb d=>a.block b (h.law b d).2.2 (λe=>by
  rcases e with e | e
  ·exact H.1 (by rw[<-e];exact(h.law b d).1)
  ·exact J.1 (by rw[<-e];exact(h.law b d).1))⟩
 ·by_cases e:u=t1
  ·subst e;exact aa
  ·by_cases e2:u=t2
   ·subst e2;exact ab
   ·by_cases en:u= .no
    ·subst en;exact JX I a.size
    ·refine rest u e e2 en (Holds.frame (h.all u) a (λb d=>⟨λG=> ?_,λG=> ?_⟩) (λb=>jO I en e b) (λb d=> ?_) en)
     ·rcases d with d | d
      ·exact e (G.symm.trans d)
      ·exact e2 (G.symm.trans d)
     ·rcases d with d | d
      ·exact H.2 (d.symm.trans G)
      ·exact J.2 (d.symm.trans G)
     ·exact(jO I η (C6 H.2) b).2 d
 ·unfold xk at d;split at d
  ·have:=h.more.size;omega
  ·exact h.ge b d
 ·obtain⟨N,O,U⟩:=h.law b d;refine⟨?_,O,ϗ U a.size⟩;unfold xk;rw[ώ τ];exact N
def KH (H: ∀b,w.heap.size<=b->T b= .no) {t:Tg} (J:t≠ .no) (N: ∀g,v.ownBlock=ϊ g->T g=t) (G:w.heap.size<=W.heap.size) (O:v'.ownBlock=v.ownBlock∨v'.ownBlock=ϊ W.heap.size) (I: ∀g,v'.ownBlock=ϊ g->g<w'.heap.size):
  ∀g,v'.ownBlock=ϊ g->xk T t w w' g=t:=λg d=>(jj H J g).2 (by
 rcases O with e | e
 ·exact ϐ (N g (by rw[<-e];exact d))
 ·rw[e] at d;injection d with d
  subst d
  exact ϓ ⟨rfl,G,I _ e⟩)
def RmX.pksPut (h:RmX T w0 w k vp vr s F) {y:AcS} (a:qk (λb=>vp.ownBlock=ϊ b∨b=k.R) w w') (Y:w.heap.size<=W.heap.size)
  (row:jd 13 RAc (λb=>(T b≠ .data/\T b≠ .pks)/\b<w.heap.size) w' 0 65 v' (s.pks++[y])) (ac:v'.ownBlock=vp.ownBlock∨v'.ownBlock=ϊ W.heap.size)
  (N:w'.heap[k.R]? =ϊ (.cells (yj k v' vr s) 95 (0,0))):qL w0 w' k {s with pks:=s.pks++[y]} F/\qA F w w':=by
 obtain⟨I,_⟩:=h.all .room;obtain⟨_,J⟩:=h.all .pks;have G:=h.fresh;have ab:jd 13 RAc (λb=>xk T .pks w w' b≠ .data/\xk T .pks w w' b≠ .pks) w' 0 65 v' (s.pks++[y]):=row.other λb d=>by
  by_cases e:b<w.heap.size
  ·refine ϐ ⟨⟨λH=>d.1 ((jO G η η _).2 H),λH=>d.2 ((jj G η _).2 (ϐ H))⟩,e⟩
  ·by_cases e3:b<w'.heap.size
   ·exact ϧ ((jj G η _).2 (ϓ ⟨rfl,τ,e3⟩)) d.2
   ·exact ϓ τ
 obtain⟨x,y⟩:=h.own2 (k':=k) (t1:= .pks) (t2:= .room) (vp':=v') (vr':=vr) (s':={s with pks:=s.pks++[y]}) ⟨η,η⟩ ⟨η,η⟩ (a.mono λb d=>by
   rcases d with d | rfl
   ·exact ϐ (J b d)
   ·exact ϓ I)
  ⟨ab,KH G η J Y ac (λg aa=>row.lt aa)⟩
  ⟨(jO G η η _).2 I,N⟩
  (λu O U ad z=>by cases u<;>first | exact z | exact ϧ rfl O | exact ϧ rfl U)
 exact⟨⟨_,_,_,x⟩,y⟩
def RmX.reqsPut (h:RmX T w0 w k vp vr s F) {y:RqS} (a:qk (λb=>vr.ownBlock=ϊ b∨b=k.R) w w') (Y:w.heap.size<=W.heap.size)
  (row:jd 4 RRq (λb=>(T b≠ .data/\T b≠ .reqs)/\b<w.heap.size) w' 0 296 v' (s.reqs++[y])) (ac:v'.ownBlock=vr.ownBlock∨v'.ownBlock=ϊ W.heap.size)
  (N:w'.heap[k.R]? =ϊ (.cells (yj k vp v' s) 95 (0,0))):qL w0 w' k {s with reqs:=s.reqs++[y]} F/\qA F w w':=by
 obtain⟨I,_⟩:=h.all .room;obtain⟨_,J⟩:=h.all .reqs;have G:=h.fresh;have ab:jd 4 RRq (λb=>xk T .reqs w w' b≠ .data/\xk T .reqs w w' b≠ .reqs) w' 0 296 v' (s.reqs++[y]):=row.other λb d=>by
  by_cases e:b<w.heap.size
  ·refine ϐ ⟨⟨λH=>d.1 ((jO G η η _).2 H),λH=>d.2 ((jj G η _).2 (ϐ H))⟩,e⟩
  ·by_cases e3:b<w'.heap.size
   ·exact ϧ ((jj G η _).2 (ϓ ⟨rfl,τ,e3⟩)) d.2
   ·exact ϓ τ
 obtain⟨x,y⟩:=h.own2 (k':=k) (t1:= .reqs) (t2:= .room) (vp':=vp) (vr':=v') (s':={s with reqs:=s.reqs++[y]}) ⟨η,η⟩ ⟨η,η⟩ (a.mono λb d=>by
   rcases d with d | rfl
   ·exact ϐ (J b d)
   ·exact ϓ I)
  ⟨ab,KH G η J Y ac (λg aa=>row.lt aa)⟩
  ⟨(jO G η η _).2 I,N⟩
  (λu O U ad z=>by cases u<;>first | exact z | exact ϧ rfl O | exact ϧ rfl U)
 exact⟨⟨_,_,_,x⟩,y⟩
def RW (h:qL w0 w k s F) (sub id:Int):
  Calls prog 193 #[γ k.B,θ #[ι sub,ι id]] w λe w'=>(∃v,e= .returned (ι v))/\qL w0 w' k {s with book:=(kE s.book (sub,id)).1} F/\qA F w w'/\qk (λx=>x=k.b) w w':=by
 obtain⟨T,vp,H,x⟩:=h;refine(Se x.bok (sub,id)).mono ?_;rintro e w' ⟨rfl,b,a⟩;obtain⟨d,G⟩:=x.book b a;exact⟨⟨_,rfl⟩,d,G,a⟩
end
def Jr {K V:Type} [DecidableEq K] (m:List (K×V)) (k:K) (v u:V):qB (qB m k v) k u=qB m k u:=by
 induction m with
 | nil=>simp[qB]
 | cons p m ih=>
  obtain⟨a,x⟩:=p;by_cases e:k=a
  ·simp[qB,e]
  ·simp[qB,e,ih]
def Yz {K V:Type} [DecidableEq K] (m:List (K×V)) (k:K) (v:V) (h:qm m k=ϊ v):qB m k v=m:=by
 induction m with
 | nil=>cases h
 | cons p m ih=>
  obtain⟨a,x⟩:=p;by_cases e:k=a
  ·simp[qm,e] at h;simp[qB,e,h]
  ·simp[qm,e] at h;simp[qB,e,ih h]
def BH (P:Nat->Prop) (vs ve vp:Value) (p:Pk):Prop:=(p.ss≠[]-> ∀g,vs.ownBlock=ϊ g->P g)/\(p.ex≠[]-> ∀g,ve.ownBlock=ϊ g->P g)/\(p.pl≠[]-> ∀g,vp.ownBlock=ϊ g->P g)
def SlI.stay {k:IntKind} (h:SlI k w v l) (I:l≠[]-> ∀b,v.ownBlock=ϊ b->b∈F) (a:qA F w w'):SlI k w' v l:=by
 obtain⟨O,cap,rfl,d,G,H⟩:=h;refine⟨O,cap,rfl,d,λi hi=> ?_,H⟩;obtain⟨b,U,rfl,N,J⟩:=G i hi;exact⟨b,U,rfl,ϗ N a.1,by rw[World.cell?_of_block (a.2 b (I (λe=>by rw[e] at hi;simp at hi) b rfl))];exact J⟩
def PkS.stay {H G:Value} {p:Pk} (h:PkS w H G vp p) (d:BH (· ∈F) H G vp p) (a:qA F w w'):PkS w' H G vp p:=
 ⟨h.s.stay d.1 a,h.e.stay d.2.1 a,h.l.stay d.2.2 a⟩
section
variable {w0 w w':World} {k:RmK} {s:RmS} {F Fn:List Nat}
def Lh (eE:qL w0 w k s (Fn++F)) (ds:zu s) (G o2:Int) {t:zX} (ak:qm s.strs (G,o2)=ϊ t) (p:Pk) (bg be bf:Value) (aV:PkS w bg be bf p)
  (df:BH (· ∈Fn) bg be bf p) (dg: ∀g∈Fn,g∉F) (dq:U16 p.sq) (dl:xQ (yJ t p.sq)) (ai:t.any=ό->xQ t.great) (de:xQ s.clock) (fG:s.pks.length<=1000000) (eN:0<=s.cnt.acc/\s.cnt.acc<=1000000000) (dm:Byt p.pl) (dn:p.pl.length<=1000000):
  Calls prog 132 #[γ k.R,θ #[ι G,ι o2],(Γq p bg be bf)] w λe w'=>e= .returned (.tuple #[])/\qL w0 w' k (s.accept (G,o2) p) F/\qA F w w':=by
 obtain⟨w4,bx⟩:=ν (w.alloc (.cells #[ι G,ι o2] 58));obtain⟨W1,bt⟩:=ν (w4.alloc (.cells (Γq p bg be bf) 63));have bA:qh w w4:=by rw[<-bx];exact qh.alloc _ _
 have cr:qh w4 W1:=by rw[<-bt];exact qh.alloc _ _
 have bj:Hid (W1.heap[w.heap.size]? =ϊ (.cells #[ι G,ι o2] 58 (0,0))):=κ (qj cr (by rw[<-bx];exact qp w _));have aK:Hid (W1.heap[w4.heap.size]? =ϊ (.cells (Γq p bg be bf) 63 (0,0))):=κ (by rw[<-bt];exact qp w4 _);have bT:=κ (bA.trans cr);obtain⟨T,vp,fk,h⟩:=eE
 have bY:RmX T w0 W1 k vp fk s ([w.heap.size,w4.heap.size]++(Fn++F)):=h.adds bT.o (λb d=>by
  have eF:=qq bj.o;have eG:=qq aK.o;have:=bA.size;simp at d;rcases d with rfl | rfl
  ·exact⟨ϕ _,eF⟩
  ·exact⟨this,eG⟩)
 have aO:=κ bY;have eo:=κ bA;have eg:Hid (∀b∈Fn,b<w.heap.size):=κ (λb d=>(h.law b (ο _ d)).2.2);have eq:=κ (h.at.stay bT.o);obtain⟨ab,fp,vb,dp,dv⟩:=bY.strAt ak;have aH:=κ dp;have br:=κ dv;have bM:=κ ak;have el:=κ (aV.keep bT.o);have ar:=κ df;have ee:=κ dg;have bL:=κ ds;have dS:=λ(x:qu W1)=>β13 (qj x.h aO.o.blk)
 have bR:=λ(x:qu W1)=>qj x.h bj.o
 have aM:=λx=>β0 (bR x);have bD:=λx=>β1 (bR x);clear bR
 have dV: ∀x:qu W1,(Instr.lookup 91 (.map (ϊ k.MS)) (θ #[ι G,ι o2]) ύ).run prog x.w'= .ok (γ ab) x.w':=λx=>by
  have:=yU (aO.o.stm.more x.h) (G,o2) ύ;rw[aH.o] at this;exact this
 obtain⟨cu,dt⟩:=ν (t.any);have aI:=κ dt;obtain⟨n,ck⟩:=ν (yJ t p.sq);have bn:=κ ck;have bK:=κ dl;have eh:=κ ai;have cM:=κ dq;have ec:=κ de;have cJ:=κ (P9 dm dn);rw[ck] at bK;obtain⟨os,am,rfl,eT⟩:=id aV.s;obtain⟨an,ke,rfl,eO⟩:=id aV.e;obtain⟨af,ae,rfl,eQ⟩:=id aV.l;clear dm dn h bY dp dv ak aV df dg ds dt ck dl ai dq de bA cr eT eO eQ
 go_enter func132,ntmps132
 go_upto_region 1 with fail
 (try rw[bx])
 (try rw[bt])
 clear bx bt;refine qG _ (qh.refl _) ξ ξ ?_
 repeat (go_big_quiet_step (fail))
 refine wpQuiet_nil ?_;intro _ eV;obtain⟨dJ,rfl⟩:=eV;obtain⟨W2,cd⟩:=ν (dJ.w');have aw:Hid (qh W1 W2):=κ (by rw[<-cd];exact dJ.h);rw[cd];clear cd dS aM bD dV;have ct:=β2 (qj aw.o aK.o);have t1:=β1 (qj aw.o br.o.blk);have t2:=β2 (qj aw.o br.o.blk);rw[aI.o] at t1
 go_upto_if 28 with (go_at_call 191;(go_call Gf p.sq cM.o _ as e fV ⟨rfl,ey⟩;obtain rfl:=ey))
 go_cut [7] from 29 (λv ag=>v= ι n/\qh W2 ag)
 case first=>
  cases cu with
  | false=>
   go_wp2;go_meet;exact⟨by rw[<-bn.o];unfold yJ;rw[aI.o];rfl,qh.refl _⟩
  | true=>
   have fo:=λ(x:qu W2)=>β2 (qj (aw.o.trans x.h) aK.o)
   have fn:=λ(x:qu W2)=>β2 (qj (aw.o.trans x.h) br.o.blk)
   go_upto_region 4 with fail
   refine Qn W2 9 9 [7] ?_
   refine Qq7 ?_
   (refine Ql ?_;intro K H)
   go_call Gr t.great p.sq (eh.o aI.o) cM.o _ as e w5 ⟨rfl,rfl⟩;refine⟨_,rfl,qo ρ,H _ _ ?_⟩;clear H K
   refine Qq1 ?_
   refine qD ?_;go_wp2;go_meet;exact⟨by rw[<-bn.o];unfold yJ;rw[aI.o];rfl,ρ⟩
 case rest=>
 obtain⟨rfl,ay⟩:=hcut;obtain⟨bl,ca⟩:=ν ([w.heap.size,w4.heap.size]++(Fn++F));rw[ca] at aO;have au:=κ ca;have cS:=κ (aO.o.on (aw.o.trans ay));have aP:=κ (br.o.on (aw.o.trans ay));have ep:=κ (aO.o.at.stay (aw.o.trans ay));clear ay ct t1 t2 ca;have t1:=β1 aP.o.blk;have t2:=β2 aP.o.blk;have fE:=ql aP.o.blk 2;rw[aI.o] at t1;obtain⟨c,dd⟩: ∃c:Bool,(!cu||decide (t.great<n))=c:=⟨_,rfl⟩;have bG:=κ dd;clear dd
 go_upto_region 5 with fail
 go_cut [49] from 50 (λv ag=>v= μ c/\ag=wc)
 case first=>
  cases cu with
  | false=>
   go_wp2;go_meet;exact⟨by rw[<-bG.o];rfl,rfl⟩
  | true=>
   go_wp2;go_meet;exact⟨by rw[<-bG.o];rfl,rfl⟩
 case rest=>
 obtain⟨rfl,ez⟩:=hcut;obtain rfl:=ez.symm
 go_upto_if 49 with fail
 obtain⟨fx,eJ⟩:=ν (wc);subst eJ;obtain⟨aT,dk⟩:=ν ((if c then n else t.great));have bJ:=κ dk;clear dk
 go_cut [] from 50 (λag=>qL w0 ag k {s with strs:=qB s.strs (G,o2) {t with great:=aT}} bl/\qA bl wc ag)
 case first=>
  cases c with
  | false=>
   have bH:Hid ({s with strs:=qB s.strs (G,o2) {t with great:=aT}}=s):=κ (by rw[<-bJ.o];show {s with strs:=qB s.strs (G,o2) t}=s;rw[Yz _ _ _ bM.o]);go_wp2;go_meet;exact⟨by rw[bH.o];exact cS.o.at,qA.refl _ _⟩
  | true=>
   have aq:=κ (cS.o.strSet (t':={t with great:=aT}) bM.o aH.o aP.o (qk.set (S:=λb=>b=ab) (qk.refl _ _) (p:=⟨ab,2,ϋ⟩) rfl (ι n)) (qF (qt aP.o.blk 2 _) (by rw[<-bJ.o];rfl)) rfl);go_wp2;go_meet;exact aq.o
 case rest=>
 obtain⟨bZ,bd⟩:=hcut;have cW:=κ (ep.o.trans bd);obtain⟨fw,fQ,fU,cx⟩:=bZ;obtain⟨fc,fq,fL,bu,aY⟩:=cx.strAt (o:=(G,o2)) (xq _ _ _);obtain rfl:ab=fc:=by rw[aH.o] at bu;injection bu
 have eu:=β1 aY.blk;have eA:=ql aY.blk 1;have Y:=κ (cx.strSet (t':={t with great:=aT,any:=ό}) (xq _ _ _) bu aY (qk.set (S:=λb=>b=ab) (qk.refl _ _) (p:=⟨ab,1,ϋ⟩) rfl (μ ό)) (qF (qt aY.blk 1 _) rfl) rfl);simp only[Jr] at Y;obtain⟨t2,cp⟩: ∃t2:zX,{t with great:=aT,any:=ό}=t2:=⟨_,rfl⟩;have cR:=κ cp;clear bd cx bu aY
 go_upto_region 8 with fail
 obtain⟨W7,ce⟩:=ν (wc.setCell ⟨ab,1,ϋ⟩ (μ ό));rw[ce] at Y
 (try rw[ce])
 clear ce eu eA;have dY:Hid (qL w0 W7 k {s with strs:=qB s.strs (G,o2) t2} bl):=κ (by rw[<-cp];exact Y.o.1);have aj:=κ (cW.o.trans Y.o.2);clear cp Y cW;obtain⟨fu,fi,fl,aB⟩:=dY.o;obtain⟨N,_,J,rfl,rfl,_⟩:=(aB.all .pks).1.shape;have bQ:=κ aB;have bX:=β14 aB.blk;clear aB
 go_upto_region 9 with fail
 clear bX;have cK:=κ (el.o.stay (F:=bl) ⟨λI g ai=>by rw[<-au.o];exact ϔ _ (ο _ (ar.o.1 I g ai)),λI g ai=>by rw[<-au.o];exact ϔ _ (ο _ (ar.o.2.1 I g ai)),λI g ai=>by rw[<-au.o];exact ϔ _ (ο _ (ar.o.2.2 I g ai))⟩ aj.o);have ef:Hid (∀b∈Fn,b<w.heap.size):=κ eg.o
 obtain⟨ad,dI,cZ,_⟩:=(bQ.o.sub (F':=[w.heap.size,w4.heap.size]++F) (λb d=>by
  rw[<-au.o];rcases ϥ.1 d with e | e
  ·exact ο _ e
  ·exact ϔ _ (ϔ _ e))).data (λb=>b∈Fn) (λb d=>by
   obtain⟨fg,ct,fh⟩:=bQ.o.law b (by rw[<-au.o];exact ϔ _ (ο _ d));refine⟨fg,ct,fh,λeK=> ?_⟩;rcases ϥ.1 eK with e | e
   ·have fW:=ef.o b d;have fX:=eo.o.size;simp at e;omega
   ·exact ee.o b d e)
 have U:=κ dI;have bp:=κ cZ;clear dI cZ bQ;have dM:=κ (aj.o.blk (by rw[<-au.o];simp) bj.o);have dO:=κ (aj.o.blk (by rw[<-au.o];simp) aK.o);obtain⟨_,du⟩:=U.o.all .pks;have aN:=κ du;clear du;have aJ: ¬(δ N s.pks.length J).ownBlock=ϊ k.R:=λe=>by have:=aN.o _ e;rw[(U.o.all .room).1] at this;cases this
 have dy: ¬(δ N s.pks.length J).ownBlock=ϊ w.heap.size:=λe=>by have:=aN.o _ e;rw[(U.o.law w.heap.size η).1] at this;cases this
 have dz: ¬(δ N s.pks.length J).ownBlock=ϊ w4.heap.size:=λe=>by have:=aN.o _ e;rw[(U.o.law w4.heap.size η).1] at this;cases this
 have dT:=λ(x:qC (λb=>(δ N s.pks.length J).ownBlock=ϊ b) W7)=>β14 (x.h.blk U.o.blk aJ)
 have bS:=λ(x:qC (λb=>(δ N s.pks.length J).ownBlock=ϊ b) W7)=>x.h.blk dM.o dy
 have aM:=λx=>β0 (bS x);have bD:=λx=>β1 (bS x);clear bS
 have cF: ∀x:qC (λb=>(δ N s.pks.length J).ownBlock=ϊ b) W7,x.w'.rangeAt w4.heap.size 0 (Γh p os am an ke af ae):=λx=>jQ (x.h.blk dO.o dz)
 obtain⟨eZ,hi,eW,eX,eY⟩:=info_parts (P:=prog) (e:=65) (z:= θ #[ι 0,ι 0,ι 0,ύ,υ 0,φ 0,ω 0,ω 0,(),ύ,φ 0,(),()]) (size:=13) (bytes:=120) ξ;refine QN (λb=>(δ N s.pks.length J).ownBlock=ϊ b) W7 13 14 [9,10,11,13] ?_
 refine Qs7 ?_
 refine jg rfl rfl (qn σ) 63 (.tmp 5) rfl w4.heap.size 0 rfl (Γh p os am an ke af ae) _ (λw' aa=>by obtain⟨x,rfl⟩:=aa;exact cF x) underlying63 rfl ξ ?_;intro K H;go_simp;refine H _ ?_;clear H K dT aM bD cF
 refine Qs1 ?_
 (refine Ql ?_;intro K H)
 refine⟨qn (((qk.refl _ W7).drewN 1).alc _),H _ _ ?_⟩;clear H K;have cq: ∀g,(δ N s.pks.length J).ownBlock=ϊ g->ad g= .pks:=aN.o;have dE:=(((U.o.all .pks).1.on (qh.drewN W7 1)).on (qh.alloc _ (.cells (Γi G o2 n p os am an ke af ae) 65))).other (D':=λb=>(ad b≠ .data/\ad b≠ .pks)/\b<W7.heap.size) (λb d=>ϐ d.1);have bB:=(cK.o.keep (qh.drewN W7 1)).keep (qh.alloc _ (.cells (Γi G o2 n p os am an ke af ae) 65));have dD:jv RAc (λb=>((ad b≠ .data/\ad b≠ .pks)/\b<W7.heap.size)∨(δ N s.pks.length J).ownBlock=ϊ b) ((W7.drewN 1).alloc (.cells (Γi G o2 n p os am an ke af ae) 65)) (Γi G o2 n p os am an ke af ae) ⟨(G,o2),n,p⟩:=λw' a=>by
  have cm: ∀g,g∈Fn-> ¬(((ad g≠ .data/\ad g≠ .pks)/\g<W7.heap.size)∨(δ N s.pks.length J).ownBlock=ϊ g):=λg ai aa=>by
   have e:=bp.o g ai;rcases aa with aa | aa
   ·exact aa.1.1 e
   ·rw[cq g aa] at e;cases e
  exact⟨_,_,_,rfl,bB.s.off2 (λI b d=>cm b (ar.o.1 I b d)) a,bB.e.off2 (λI b d=>cm b (ar.o.2.1 I b d)) a,bB.l.off2 (λI b d=>cm b (ar.o.2.2 I b d)) a⟩
 refine jY rfl rfl ?_;intro K H
 refine ym (.tmp 66) (.tmp 71) 92 rfl 0 65 eZ (θ #[ι 0,ι 0,ι 0,ύ,υ 0,φ 0,ω 0,ω 0,(),ύ,φ 0,(),()]) 13 120 underlying92 hi eW eX eY rfl ζ _ s.pks rfl dE W7.heap.size (Γi G o2 n p os am an ke af ae) ⟨(G,o2),n,p⟩ rfl rfl (uB rfl) Z5 dD (λb d=>by
  have:=d.2;have:=(((qh.drewN W7 1)).al (.cells (Γi G o2 n p os am an ke af ae) 65)).size
  omega) ζ τ (Ϻ _) ?_
 intro fJ w6 cl dj dc;have aC:Hid (qk (λb=>(δ N s.pks.length J).ownBlock=ϊ b) W7 w6):=κ ((((qk.refl _ W7).drewN 1).alc _).trans (qk.of_grown dj));obtain⟨bb,ba,aS,rfl,eR,eS⟩:=cl.shape;have bk:=κ (aC.o.blk U.o.blk aJ);have eI:=U.o.lt;have cy:(ad k.R≠ .data/\ad k.R≠ .pks)/\k.R<W7.heap.size:=⟨by rw[(U.o.all .room).1];exact⟨η,η⟩,eI⟩;have bm:=κ (U.o.pksPut (y:=⟨(G,o2),n,p⟩) ((aC.o.mono (S':=λb=>(δ N s.pks.length J).ownBlock=ϊ b∨b=k.R) (λb d=>ϐ d)).set (p:=⟨k.R,14,ϋ⟩) (ϓ rfl) (δ bb ba aS)) (((qh.drewN W7 1)).al (.cells (Γi G o2 n p os am an ke af ae) 65)).size (cl.step (qk.set (S:=λb=>(ad b≠ .data/\ad b≠ .pks)/\b<W7.heap.size) (qk.refl _ _) (p:=⟨k.R,14,ϋ⟩) cy (δ bb ba aS))) dc (qF (qt bk.o 14 _) rfl));have bX:w6.cell? ⟨k.R,14,ϋ⟩=ϊ (δ N s.pks.length J):=qi bk.o 14 rfl;have eB:w6.frozen? ⟨k.R,14,ϋ⟩=ύ:=ql bk.o 14;clear cl dj dc dE dD bB eR eS;refine⟨qn aC.o,H _ _ ?_⟩;clear H K;go_simp
 (refine Ql ?_;intro K H)
 refine⟨qn aC.o,H _ _ ?_⟩;clear H K
 iterate 1 (refine qz rfl rfl (qn aC.o) ?_;intro K H;go_big_quiet_op;go_big_quiet_on)
 (refine Qe ?_;intro K H)
 refine H _ _ ?_;clear H K;refine qD ?_
 have cH:Hid (SlI .u8 (w6.setCell ⟨k.R,14,ϋ⟩ (δ bb ba aS)) (δ af p.pl.length ae) p.pl):=κ (cK.o.l.off2 (D:=λb=>(δ N s.pks.length J).ownBlock=ϊ b∨b=k.R) (λI b d aa=>by
  have e:=bp.o b (ar.o.2.2 I b d);rcases aa with aa | aa
  ·rw[cq b aa] at e;cases e
  ·rw[aa,(U.o.all .room).1] at e;cases e) ((aC.o.mono (S':=λb=>(δ N s.pks.length J).ownBlock=ϊ b∨b=k.R) (λb d=>ϐ d)).set (p:=⟨k.R,14,ϋ⟩) (ϓ rfl) (δ bb ba aS)))
 have cU:Hid (p.pl≠[]-> ∀b,(δ af p.pl.length ae).ownBlock=ϊ b->b≠k.b/\b≠k.R):=κ (λI b d=>by
  have e:=bp.o b (ar.o.2.2 I b d);refine⟨λx=> ?_,λx=> ?_⟩
  ·rw[x,(U.o.all .book).2.1] at e;cases e
  ·rw[x,(U.o.all .room).1] at e;cases e)
 obtain⟨cX,cf⟩:=ν (w6.setCell ⟨k.R,14,ϋ⟩ (δ bb ba aS));rw[cf] at cH bm
 have bU:Hid (qA ([w.heap.size,w4.heap.size]++F) W1 cX):=κ ((aj.o.sub (λb d=>by
  rw[<-au.o];rcases ϥ.1 d with e | e
  ·exact ο _ e
  ·exact ϔ _ (ϔ _ e))).trans bm.o.2)
 have cA:=κ bm.o.1;obtain⟨fP,fT,bC⟩:=cA.o.blk;have ex:=β20 bC;have eC:=ql bC 20;obtain⟨fy,fz⟩:=eN;clear bC bX eB aJ dy dz cq bp aN U aC bk bm cy;have aq:=κ (cA.o.cell 20 (ι (s.cnt.acc+1)) (s':={s with strs:=qB s.strs (G,o2) t2,pks:=s.pks++[⟨(G,o2),n,p⟩],cnt:={s.cnt with acc:=s.cnt.acc+1}}) (λ_ _=>rfl) ⟨rfl,rfl,rfl,rfl,rfl,rfl,rfl,rfl,rfl⟩);have cI:=κ (cH.o.off2 (λI b d=>(cU.o I b d).2) (qk.set (S:=λb=>b=k.R) (qk.refl _ _) (p:=⟨k.R,20,ϋ⟩) rfl (ι (s.cnt.acc+1))))
 go_upto_region 10 with fail
 (try rw[cf])
 clear cf
 go_upto_region 11 with fail
 obtain⟨aF,cg⟩:=ν (cX.setCell ⟨k.R,20,ϋ⟩ (ι (s.cnt.acc+1)));rw[cg] at aq cI
 (try rw[cg])
 clear cg ex eC;obtain⟨id,ci⟩: ∃id:Int,(s.pks.length:Int)=id:=⟨_,rfl⟩;have cG:=κ ci
 (try rw[ci])
 clear ci;obtain⟨ao,cb⟩:=ν ([w.heap.size,w4.heap.size]++F);have aD:=κ cb;rw[cb] at aq bU;obtain⟨s3,aX⟩: ∃s3:RmS,{s with strs:=qB s.strs (G,o2) t2,pks:=s.pks++[⟨(G,o2),n,p⟩],cnt:={s.cnt with acc:=s.cnt.acc+1}}=s3:=⟨_,rfl⟩;have em:=κ aX;rw[aX] at aq;have dZ:=κ aq.o.1;have bV:=κ (bU.o.trans aq.o.2);have cO:Hid (zu s3):=κ (by rw[<-aX];exact⟨bL.o.keys,bL.o.lane,bL.o.few⟩);have bN:Hid (s3.tab=s.tab/\s3.book=s.book/\s3.clock=s.clock/\qm s3.strs (G,o2)=ϊ t2):=κ (by rw[<-aX];exact⟨rfl,rfl,rfl,xq _ _ _⟩);clear aX cb aq bU;obtain⟨fs,fN,fR,dG⟩:=dZ.o;have bq:=κ dG;have dN:=κ (bV.o.blk (by rw[<-aD.o];simp) bj.o);have dP:=κ (bV.o.blk (by rw[<-aD.o];simp) aK.o);have dR:=λ(x:qu aF)=>β11 (qj x.h bq.o.blk)
 have aM:=λ(x:qu aF)=>β0 (qj x.h dN.o)
 obtain⟨L,cc⟩:=ν (prR (jH G) s3.tab.u);have ei:=κ cc;have cQ:=κ (λw m=>LO (bq.o.tab.more (w':=w) m) G cO.o.keys cO.o.few);rw[cc] at cQ;clear cc dG;refine Qn aF 8 8 [6] ?_
 refine Qq6 ?_
 (refine Ql ?_;intro K H)
 go_call cQ.o _ (qh.drewN aF 1) as e bh ⟨⟨v3,rfl,dF,dx⟩,ay⟩;obtain⟨fH,fD,ap,rfl,fF,dH,dr⟩:=(bq.o.on (qh.drewN aF 1)).ints ay dF dx;have aQ:Hid (qh aF bh):=κ ((qh.drewN aF 1).trans ay);have cN:=κ dr;have dX:=κ dH.at;have er:=κ (bV.o.trans (bq.o.at.stay aQ.o));have ej:=κ (cI.o.keep aQ.o);clear ay dF dx dH dr;refine⟨_,rfl,qo aQ.o,H _ _ ?_⟩;clear H K
 iterate 1 (refine qz rfl rfl (qo aQ.o) ?_;intro K H;go_big_quiet_op;go_big_quiet_on)
 refine qD ?_;clear dR aM;go_wp2
 go_loopw [93] (λaG wr=> ∃j:Nat,j<=L.length/\aG= ι j/\qL w0 wr k {s3 with book:=Xh s3.book (L.take j) id} (ap++ao)/\qA (ap++ao) bh wr/\qk (λb=>b=k.b) bh wr) (λaG _=>L.length-(intOf aG).toNat)
 case atStart=>exact⟨0,τ,rfl,dX.o,qA.refl _ _,qk.refl _ _⟩
 case round=>
  obtain⟨j,eP,rfl,aW,ak,da⟩:=hrel;have ah:=κ aW;have av:=κ ak;have cB:=κ da;clear aW ak da;by_cases hlt:j<L.length
  ·have cj:(j:Int)<(L.length:Int):=by omega
   obtain⟨ev,fa,rfl,eM⟩:=cN.o wr (λb d=>av.o.2 b (by simp[d])) j hlt;have bO:Hid (L.take (j+1)=L.take j++[L[j]]):=κ (by rw[A9,ϖ hlt];rfl);generalize L[j]=x at *;obtain⟨fj,fm,aL⟩:=ah.o.blk;have ew:=β0 aL;clear aL
   go_wp2_with (go_at_call 193;(go_call RW ah.o x id as e cw ⟨⟨fK,rfl⟩,aU,bc,bs⟩;have Y:=κ aU;have aj:=κ bc;have dL:=κ bs;clear aU bc bs))
   go_roundw
   case rel=>exact⟨j+1,τ,by go_num,by have:=Y.o;unfold Xh at this ⊢;rw[bO.o,Δ];exact this,av.o.trans aj.o,cB.o.trans dL.o⟩
   case measure=>simp[intOf];omega
  ·obtain rfl:j=L.length:=by omega
   have cj: ¬(L.length:Int)<(L.length:Int):=by omega
   rw[ϭ] at ah;have dQ:=κ (β9 (av.o.blk (b:=w4.heap.size) (by simp[<-aD.o]) (qj aQ.o dP.o)));have ff:=dQ.o;have ek:=κ (ej.o.off2 (λI b d=>(cU.o I b d).1) cB.o);obtain⟨cY,ch⟩:=ν (xO p.pl);have cC:=κ (Xe _ p.pl wr ek.o cJ.o.1 cJ.o.2);rw[ch] at cC;have eb:=κ ch;clear ch
   go_upto_if 109 with (go_at_call 134;(go_call cC.o as e cw ⟨rfl,dw⟩;have cT:=κ dw;clear dw))
   have Y:=κ (ah.o.on cT.o);have es:=κ (av.o.trans (ah.o.stay cT.o));obtain⟨O,bw⟩: ∃O:RmS,{s3 with book:=Xh s3.book L id}=O:=⟨_,rfl⟩;have en:=κ bw;rw[bw] at Y;have bo:Hid (qm O.strs (G,o2)=ϊ t2/\O.clock=s.clock):=κ (by rw[<-bw];exact⟨bN.o.2.2.2,bN.o.2.2.1⟩);obtain⟨aR,db⟩:=ν ((if cY then ύ else t2.askedOf));have bF:=κ db;obtain⟨aj,fi,fl,aB⟩:=Y.o;obtain⟨fd,fr,fM,bv,aZ⟩:=aB.strAt bo.o.1;obtain rfl:ab=fd:=by rw[aH.o] at bv;injection bv
   have fb:=β7 aZ.blk;have eD:=ql aZ.blk 7;have ea:=κ (aB.strSet (t':={t2 with askedOf:=ύ}) bo.o.1 bv aZ (qk.set (S:=λb=>b=ab) (qk.refl _ _) (p:=⟨ab,7,ϋ⟩) rfl (μ ύ)) (qF (qt aZ.blk 7 _) rfl) rfl);clear bw db aB bv aZ ff
   go_cut [] from 110 (λag=>qL w0 ag k {O with strs:=qB O.strs (G,o2) {t2 with askedOf:=aR}} (ap++ao)/\qA (ap++ao) cw ag)
   case first=>
    cases cY with
    | false=>
     have bH:Hid ({O with strs:=qB O.strs (G,o2) {t2 with askedOf:=aR}}=O):=κ (by rw[<-bF.o];show {O with strs:=qB O.strs (G,o2) t2}=O;rw[Yz _ _ _ bo.o.1]);go_wp2;go_meet;exact⟨by rw[bH.o];exact Y.o,qA.refl _ _⟩
    | true=>
     obtain rfl:ύ=aR:=bF.o;go_wp2;go_meet;exact ea.o
   case rest=>
   obtain⟨bZ,bd⟩:=hcut;have et:=κ (es.o.trans bd);obtain⟨ft,fO,fS,bi⟩:=bZ;have bP:=κ bi;obtain⟨fe,ax,aA,cn,bz⟩:=bi.strAt (o:=(G,o2)) (xq _ _ _);obtain rfl:ab=fe:=by rw[aH.o] at cn;injection cn
   have aE:=κ bz;have dA:k.R≠ax:=λe=>by have:=bz.nb;rw[<-e,(bi.all .room).1] at this;cases this
   have dB: ¬aA.ownBlock=ϊ k.R:=λe=>by have:=(bz.nv _ e).1;rw[(bi.all .room).1] at this;cases this
   have aJ: ¬(k.R=ax∨aA.ownBlock=ϊ k.R):=λe=>e.elim dA dB
   have dC: ¬(ab=ax∨aA.ownBlock=ϊ ab):=λe=>e.elim (λe=>aE.o.ne e) (λe=>(aE.o.nv _ e).2 rfl)
   have ed:Hid (O.clock=s.clock):=κ bo.o.2;have dU: ∀x:qC (λb=>b=ax∨aA.ownBlock=ϊ b) wc,x.w'.cell? ⟨k.R,9,ϋ⟩=ϊ (ι s.clock):=λx=>by rw[<-ed.o];exact qi (x.h.blk bP.o.blk aJ) 9 rfl
   have dW:=λ(x:qC (λb=>b=ax∨aA.ownBlock=ϊ b) wc)=>β0 (x.h.blk aE.o.blk dC)
   clear bd bi cn bz fb eD dA dB;obtain⟨ac,dh⟩:=ν ((jB t2.buf n s.clock id).2);have cD:=κ dh;clear dh
   go_upto_region 20 with fail
   refine QN (λb=>b=ax∨aA.ownBlock=ϊ b) wc 11 11 [10] ?_
   refine He ?_
   (refine Ql ?_;intro K H)
   have cL:=κ (FX t2.buf aE.o.ok ax aA n s.clock id bK.o _ (aE.o.buf.on (qh.drewN wc 1)));rw[cD.o] at cL
   (with_reducible refine cL.o.mono ?_)
   rintro e cv ⟨rfl,fI,st⟩;have dK:Hid (qk (λb=>b=ax∨aA.ownBlock=ϊ b) wc cv):=κ (((qk.refl _ wc).drewN 1).trans st.away);have bE:=κ ((bP.o.on (qh.drewN wc 1)).strBuf (xq _ _ _) aH.o (aE.o.on (qh.drewN wc 1)) st (Ib aE.o.ok bK.o ec.o));simp only[Jr] at bE;have cV:=κ (et.o.trans ((bP.o.at.stay (qh.drewN wc 1)).trans bE.o.2));clear st;refine⟨_,rfl,qn dK.o,H _ _ ?_⟩;clear H K dU dW aJ dC;refine qD ?_;obtain⟨az,co⟩: ∃az:RmS,{O with strs:=qB O.strs (G,o2) {t2 with buf:=(jB t2.buf n s.clock id).1,askedOf:=aR}}=az:=⟨_,rfl⟩
   have cE:Hid (∀bW,(if zq ac=0 then az.book else xV az.book L id (zq ac))=bW->s.accept (G,o2) p={az with book:=bW}):=κ (by
    intro bW eL;have eU:YZ t p s.clock s.pks.length={t2 with buf:=(jB t2.buf n s.clock id).1,askedOf:=aR}:=by
     unfold YZ;rw[bn.o,<-bF.o,<-cR.o,<-eb.o,<-cG.o,<-bJ.o,<-bG.o,<-aI.o];cases t.any<;>simp
    have d:t2.buf=t.buf:=by rw[<-cR.o]
    have eH:prR (jH G) s.tab.u=L:=by rw[<-ei.o,bN.o.1]
    rw[<-eL,<-co,<-en.o,<-em.o];unfold RmS.accept;rw[bM.o];simp only[Jr]
    rw[eU,bn.o,eH,cG.o,<-d,cD.o])
   have cP:Hid (∀w',qA (ap++ao) bh w'->qA F w w'):=κ (λw' h=>(eq.o.sub (F':=F) (λb d=>ϔ _ d)).trans (((er.o.sub (F':=F) (λb d=>by rw[<-aD.o];exact ϔ _ d))).trans (h.sub (λb d=>by rw[<-aD.o];simp[d]))));have cz:Hid (qL w0 cv k az (ap++ao)):=κ (by rw[<-co];exact bE.o.1);clear co
   go_upto_block 2 with fail
   go_cut [12] from 124 to 129 (λv ag=>v= ι (zq ac)/\zq ac≠0/\ag=cv)
   case first=>
    by_cases e10:ac=10
    ·subst e10;go_wp2;go_meet;exact⟨rfl,ζ,rfl⟩
    ·by_cases e9:ac=9
     ·subst e9;go_wp2;go_meet;exact⟨rfl,ζ,rfl⟩
     ·by_cases e8:ac=8
      ·subst e8;go_wp2;go_meet;exact⟨rfl,ζ,rfl⟩
      ·have fA:(ac==10)=ύ:=by simp[e10]
       have fC:(ac==9)=ύ:=by simp[e9]
       have fB:(ac==8)=ύ:=by simp[e8]
       have bI:Hid (zq ac=0):=κ (by unfold zq;rw[ώ e10,ώ e9,ώ e8]);clear e10 e9 e8;go_wp2
       (refine bodyPost_ret (v:= .tuple #[]) ?re2 rfl ?_;(case re2=>simp[results,results132,go_sem]))
       exact⟨rfl,by rw[cE.o _ rfl,ϒ bI.o];exact(cz.o.sub (λb d=>ϔ _ d)).sub (λb d=>by rw[<-aD.o];exact ϔ _ d),cP.o _ cV.o⟩
   case rest=>
   obtain⟨rfl,di,rfl⟩:=hcut;have bI:=κ di;clear di;generalize zq ac=fv at *;go_wp2
   go_loopw [132] (λaG wr=> ∃j:Nat,j<=L.length/\aG= ι j/\qL w0 wr k {az with book:=xV az.book (L.take j) id fv} (ap++ao)/\qA (ap++ao) bh wr) (λaG _=>L.length-(intOf aG).toNat)
   case atStart=>exact⟨0,τ,rfl,cz.o,cV.o⟩
   case round=>
    obtain⟨j,eP,rfl,aW,ak⟩:=hrel;have ah:=κ aW;have av:=κ ak;clear aW ak;by_cases hlt:j<L.length
    ·have cj:(j:Int)<(L.length:Int):=by omega
     obtain⟨ev,fa,rfl,eM⟩:=cN.o wr (λb d=>av.o.2 b (by simp[d])) j hlt;have bO:Hid (L.take (j+1)=L.take j++[L[j]]):=κ (by rw[A9,ϖ hlt];rfl);generalize L[j]=x at *;obtain⟨fj,fm,aL⟩:=ah.o.blk;have ew:=β0 aL;clear aL
     go_wp2_with (go_at_call 122;(go_call Zm ah.o x id fv as e cw ⟨rfl,aU,bc,bs⟩;have Y:=κ aU;have aj:=κ bc;clear aU bc bs))
     go_roundw
     case rel=>exact⟨j+1,τ,by go_num,by have:=Y.o;unfold xV at this ⊢;rw[bO.o,Δ];exact this,av.o.trans aj.o⟩
     case measure=>simp[intOf];omega
    ·obtain rfl:j=L.length:=by omega
     have cj: ¬(L.length:Int)<(L.length:Int):=by omega
     rw[ϭ] at ah;go_wp2
     (refine bodyPost_end (v:= .tuple #[]) ?re1 rfl ?_;(case re1=>simp[results,results132,go_sem]))
     exact⟨rfl,by rw[cE.o _ rfl,ώ bI.o];exact(ah.o.sub (λb d=>ϔ _ d)).sub (λb d=>by rw[<-aD.o];exact ϔ _ d),cP.o _ av.o⟩
end
def SmS (s:RdS):Prop:=Byt s.1/\s.1.length<=200
def SmS.tk {s:RdS} (h:SmS s) (n:Int):SmS (tkS s n):=⟨h.1.drop _,ϙ (wJ s n) h.2⟩
def SmS.wr {s:RdS} (h:SmS s) (x:Int):SmS (wrS s x):=⟨by unfold wrS;split;exact h.1;exact xB,ϙ (km s x) h.2⟩
def SmS.ss: ∀(n:Nat) {s:RdS},SmS s->SmS (xf n s).2
 | 0,_,h=>h
 | n+1,_,h=>(SmS.ss n h).tk 4
def Ui (N:Byt b) (O: ¬(200:Int)<b.length):U16 (jS b).1.sq/\Byt (jS b).1.pl/\(jS b).1.pl.length<=200:=by
 have G:SmS (b,0):=⟨N,by show b.length<=200;omega⟩;have I:SmS (s5H b):=((((G.tk 1).tk 1).tk 2).tk 4).tk 4;have J:SmS (yA (fH b) (s5H b)):=by
  unfold yA;split
  ·exact I.wr 2
  ·exact I
 have d:SmS (zU (fH b) (yA (fH b) (s5H b))).2:=by
  unfold zU;split
  ·exact(((SmS.ss _ J).tk 2).tk 2).tk _
  ·exact SmS.ss _ J
 unfold jS;rw[ώ O];unfold Xk;split
 ·refine⟨?_, ?_⟩
  ·have H:=XJ (s:=s2H b) ((G.tk 1).tk 1).1 2 ζ;exact⟨H.1,by have:=H.2;show num (tkB (s2H b).1 ((2:Nat):Int))<=65535;omega⟩
  ·show Byt (yR _ _).1/\(yR _ _).1.length<=200;unfold yR;split
   ·exact⟨xB,η⟩
   ·split
    ·split
     ·unfold za;split
      ·exact⟨xB,η⟩
      ·split
       ·exact⟨xB,η⟩
       ·exact⟨d.1.take _,by simp only[ϛ];have:=d.2;omega⟩
     ·exact⟨xB,η⟩
    ·exact d
 ·exact⟨⟨T9 0,by show (0:Int)<=65535;omega⟩,xB,Ϻ _⟩
def Ni (b:List Int):Bl b=Y5 b:=by
 unfold Bl Y5;rw[Bool.and_assoc]
def OZ (h:RmX T w0 w k vp vr s F) (ai:s.queue=b::q):
  Calls prog 128 #[γ k.RQ] w λe w'=> ∃d G,e= .returned (.tuple #[δ d b.length G,ό])/\SlI .u8 w' (δ d b.length G) b/\qL w0 w' k {s with queue:=q} F/\qA F w w':=by
 obtain⟨f,Q,aa,ad,U,Y,css,g,a⟩:=h.que;obtain⟨t1,t2,_⟩:=h.all .queue;rw[ai] at a
 match Q,a with
 | c::Q,a=>
  obtain⟨J,ab⟩:=a;have ac:=J;obtain⟨v,rfl,⟨d,G,rfl,_⟩,H⟩:=J.read;refine(Rv w _ _ _ f d _ G Q aa ad U Y css g).mono ?_;rintro e w' ⟨rfl,⟨ae,g'⟩,O⟩;have N:qk (λb=>T b≠ .data) w w':=O.mono λb H=>by
   rcases H with rfl | rfl
   ·rw[t1];simp
   ·rw[t2];simp
  obtain⟨af,ag⟩:=h.ring (q:=q) O (λD ah=>⟨_,Q,aa,ae,U,Y,_,g',ab.mono λc y aj=>(aj.step N).other λb H=>(ah b H).elim ϐ (λx=>ϐ (by rw[h.fresh b x];simp))⟩);obtain⟨ak,I,s2,_⟩:=ac w' N;injection I with I
  subst I;exact⟨d,G,rfl,s2,af,ag⟩
structure Md (s:RmS):Prop where
 subs:zu s
 pub:Yh s
 malf:0<=s.cnt.malf/\s.cnt.malf<=1000000000
 told:0<=s.cnt.told/\s.cnt.told<=1000000000
 strange:0<=s.cnt.strange/\s.cnt.strange<=1000000000
 acc:0<=s.cnt.acc/\s.cnt.acc<=1000000000
 pks:s.pks.length<=1000000
 clock:xQ s.clock
 strs: ∀o t,qm s.strs o=ϊ t->(t.any=ό->xQ t.great)/\ ∀sq,U16 sq->xQ (yJ t sq)
 orgs: ∀x o,qm s.tab.o x=ϊ o->(qm s.strs o).isSome=ό
 queue: ∀b∈s.queue,Byt b/\b.length<=1000000
 ids: ∀o t,qm s.strs o=ϊ t-> ∀h∈t.buf.holds,0<=h.2.2/\h.2.2<(s.pks.length:Int)
 pkok: ∀a∈s.pks,ud a.pk/\gG a.pk
 owes: ∀x id,qm s.book (x,id)=ϊ 0->(qm s.lanes x).isSome=ό
def Du (d:SlI .u8 w v b) (G:Byt b):Calls prog 16 #[v] w (vE (jS b) w):=by
 by_cases hl:(200:Int)<b.length
 ·exact Uy v b w d hl
 ·exact QX v b w d G hl
def Mp (h:qL w0 w k s F) (m:qh w w') {I G H:Value} {p:Pk} (N:PkS w' I G H p) (n: ∀b,(I.ownBlock=ϊ b∨G.ownBlock=ϊ b∨H.ownBlock=ϊ b)->w.heap.size<=b):
  ∃Fn,qL w0 w' k s (Fn++F)/\BH (· ∈Fn) I G H p/\ ∀g∈Fn,g∉F:=by
 obtain⟨T,vp,ad,x⟩:=h;have key: ∀{U:IntKind} {v:Value} {l:List Int},SlI U w' v l->v∈[I,G,H]->(∀b,v.ownBlock=ϊ b->w.heap.size<=b)->l≠[]-> ∀g,v.ownBlock=ϊ g->g∈([I,G,H].filterMap Value.ownBlock).filter (λb=>decide (w.heap.size<=b/\b<w'.heap.size)):=by
  intro U v l ac ab aa Y g J;rw[G2];exact⟨Q2.2 ⟨v,ab,J⟩,Ϩ ⟨aa g J,ac.old Y J⟩⟩
 have O: ∀b∈([I,G,H].filterMap Value.ownBlock).filter (λb=>decide (w.heap.size<=b/\b<w'.heap.size)),w.heap.size<=b/\b<w'.heap.size:=λb d=>Ϛ (G2.1 d).2
 exact⟨_,⟨T,vp,ad,x.adds m O⟩,⟨key N.s η (λb d=>n b (ϐ d)),key N.e η (λb d=>n b (ϓ (ϐ d))),key N.l η (λb d=>n b (ϓ (ϓ d)))⟩,λg J hF=>by
  have ae:=(O g J).1;have af:=(x.law g hF).2.2
  omega⟩
def OY (bZ:qL w0 w k s F) (aR:Md s) (ay:s.queue=b::q) (w1 w2:Int) (acc:Bool):
  Calls prog 79 #[γ k.R,θ #[ι w1,ι w2],acc] w λe w'=>e= .returned (.tuple #[])/\qL w0 w' k s.read F/\qA F w w':=by
 obtain⟨T,vp,ci,h⟩:=bZ;obtain⟨W1,aO⟩:=ν (w.alloc (.cells #[ι w1,ι w2] 37));have bi:Hid (qh w W1):=κ (by rw[<-aO];exact qh.alloc _ _);have bh:=κ (h.on bi.o);have ao:=κ (h.at.stay bi.o);have G:=κ aR;obtain⟨bu,bv⟩:=aR.queue b (by rw[ay];exact ϣ);have ak:=κ (P9 bu bv);obtain⟨sq,az⟩: ∃sq:RmS,{s with queue:=q}=sq:=⟨_,rfl⟩;have U:=κ az;have bg:=κ (OZ bh.o ay);rw[az] at bg;have cl:=β10 bh.o.blk;have af:Hid (s.read=if Y5 b then sq.tell b else sq.media b):=κ (by unfold RmS.read;rw[ay];simp only[az]);clear h aR ay bu bv az;obtain⟨c,aP⟩:=ν (Y5 b);have bO:Hid (Bl b=c):=κ (by rw[Ni,aP]);rw[aP] at af;have aK:Hid (zu sq/\Yh sq/\(0<=sq.cnt.malf/\sq.cnt.malf<=1000000000/\0<=sq.cnt.told/\sq.cnt.told<=1000000000)):=κ (by rw[<-U.o];exact⟨⟨G.o.subs.keys,G.o.subs.lane,G.o.subs.few⟩,G.o.pub,G.o.malf.1,G.o.malf.2,G.o.told.1,G.o.told.2⟩);clear aP;obtain⟨bq,aQ⟩:=ν ((jS b).2);obtain⟨p,aS⟩:=ν ((jS b).1);have aJ:=κ aQ;have bf:=κ aS;have aL:=κ (λw' v (sl:SlI .u8 w' v b)=>Du sl ak.o.1);unfold vE at aL;rw[aQ,aS] at aL;clear aQ aS
 go_enter func79,ntmps79
 go_upto_region 1 with fail
 (try rw[aO])
 clear aO
 go_upto_if 21 with (first | (go_at_call 128;(go_call bg.o as e bF ⟨ct,cu,rfl,s3,bt,t3⟩;have aM:=κ s3;have aj:=κ bt;have bn:=κ t3;clear s3 bt t3)) | (go_at_call 129;(go_call F4 _ b bF aM.o as e w4 ⟨rfl,bY⟩;rw[bO.o];obtain rfl:=bY)))
 cases c with
 | true=>
  go_wp2_with (go_at_call 130;(go_call OU aj.o aK.o.1 aK.o.2.1 b _ aM.o ak.o.1 ak.o.2 aK.o.2.2 as e w5 ⟨rfl,ar,t5⟩;have bM:=κ ar;have bW:=κ t5;clear ar t5))
  (refine bodyPost_ret (v:= .tuple #[]) ?re2 rfl ?_;(case re2=>simp[results,results79,go_sem]))
  exact⟨rfl,by rw[af.o];exact bM.o,ao.o.trans (bn.o.trans bW.o)⟩
 | false=>
  go_upto_if 31 with (go_at_call 16;(go_call aL.o _ _ aM.o as e w5 ⟨cB,cx,cy,rfl,ai,bz,bB⟩;obtain⟨os,aD,rfl,_⟩:=id ai.s;obtain⟨aE,ke,rfl,_⟩:=id ai.e;obtain⟨aF,aC,rfl,_⟩:=id ai.l;have bj:=κ bz;have bl:=κ ai;have bR:=κ bB;clear bz bB ai))
  obtain⟨W6,ad⟩:=ν (w5.alloc (.cells (Γh p os aD aE ke aF aC) 63));have bk:Hid (qh bF W6):=κ (by rw[<-ad];exact bj.o.al _);obtain⟨Fn,ar,cf,bX⟩:=Mp aj.o bj.o bl.o bR.o;have bQ:=κ (ar.on (by rw[<-ad];exact qh.alloc _ _:qh w5 W6));have bS:=κ cf;have bK:=κ bX;have bU:=κ (bl.o.keep (by rw[<-ad];exact qh.alloc _ _:qh w5 W6));have ba:Hid (W6.heap[w5.heap.size]? =ϊ (.cells (Γh p os aD aE ke aF aC) 63 (0,0))):=κ (by rw[<-ad];exact qp _ _);have bo:=κ (bn.o.trans (aj.o.stay bk.o))
  (try rw[ad])
  clear ad;by_cases he:bq=0
  ·subst he;have am:Hid (sq.media b=match qm sq.tab.o p.sc with | none=>{sq with cnt:={sq.cnt with strange:=sq.cnt.strange+1}} | some o=>sq.accept o p):=κ (by unfold RmS.media;rw[aJ.o,ϒ rfl,bf.o];rfl)
   go_upto_region 7 with fail
   obtain⟨T,vp,ci,bH⟩:=bQ.o;have aq:=κ bH;have an:=κ (λw' (m:qh W6 w')=>Nt (aq.o.tab.more m) p.sc);have bJ:=λ(x:qu W6)=>β11 (qj x.h aq.o.blk)
   have bT:=λ(x:qu W6)=>β4 (qj x.h ba.o)
   clear bH;obtain⟨ab,ah⟩:=ν (qm sq.tab.o p.sc);obtain⟨N,av⟩:=ν ((ab.getD (0,0)).1);obtain⟨o2,aw⟩:=ν ((ab.getD (0,0)).2);obtain⟨bC,ax⟩:=ν (ab.isSome);rw[ah,av,aw,ax] at an
   go_cut [10,11] from 41 to 51 (λcg ch bG=> ∃A,cg= γ A/\ch= μ bC/\bG.heap[A]? =ϊ (.cells #[ι N,ι o2] 58 (0,0))/\qh W6 bG)
   case first=>
    refine ye W6 14 (.op 0 ύ (.op 1 ύ (.op 2 ύ (.op 3 ύ (.op 4 ύ (.op 5 ύ (.op 6 ύ (.br [7,11] λk=>if k=7 then .op 8 ύ (.op 9 ύ (.op 10 ύ (.op 11 ό (.op 12 ό (.op 13 ύ (.done)))))) else .op 7 ό (.op 8 ύ (.op 9 ύ (.op 10 ύ (.op 12 ό (.op 13 ύ (.done)))))))))))))) ξ ξ ?_
    repeat (first | (refine jl rfl rfl (qo ρ) ?_) | (refine qK rfl rfl (qo ρ) ?_;intro K d;go_big_quiet_op;go_big_quiet_on))
    refine gK ζ ?_ ?_
    ·(refine qV rfl rfl ?_;intro K d;unfold jt;go_simp)
     refine(an.o _ (qh.drewN W6 1)).mono ?_;rintro e w8 ⟨rfl,bA⟩;have J:Hid (qh W6 w8):=κ ((qh.drewN W6 1).trans bA);clear bA;refine⟨_,rfl,qo J.o,d _ _ ?_⟩;clear d K
     repeat (first | (refine jl rfl rfl (qo J.o) ?_) | (refine qK rfl rfl (qo J.o) ?_;intro K d;go_big_quiet_op;go_big_quiet_on))
     (refine qV rfl rfl ?_;intro K d;unfold jt;go_simp)
     refine⟨qo (J.o.al _),d _ _ ?_⟩;clear d K;obtain⟨w9,aB⟩:=ν (w8.alloc (.cells #[ι 0,ι 0] 58));obtain⟨A,Y⟩:=ν (w8.heap.size);have I:Hid (w9.heap[A]? =ϊ (.cells #[ι 0,ι 0] 58 (0,0))):=κ (by rw[<-aB,<-Y];exact qp w8 _);have aa:Hid (qh W6 w9):=κ (by rw[<-aB];exact J.o.al _);have ae:Hid (W6.heap.size<=A):=κ (by rw[<-Y];exact J.o.size)
     (try rw[aB])
     (try rw[Y])
     clear aB Y;have z0:=β0 I.o;have aZ:=β1 I.o;have aX:=ql I.o 0;have aY:=ql I.o 1
     repeat (first | (refine jl rfl rfl (qo aa.o) ?_) | (refine qK rfl rfl (qo aa.o) ?_;intro K d;go_big_quiet_op;go_big_quiet_on))
     (refine qV rfl rfl ?_;intro K d;unfold jt;go_simp)
     have H:Hid (qh W6 ((w9.setCell ⟨A,0,ϋ⟩ (ι N)).setCell ⟨A,1,ϋ⟩ (ι o2))):=κ ((aa.o.st ae.o _).st ae.o _);have ac:=κ (qF (qt (qt I.o 0 (ι N)) 1 (ι o2)) (cs':= #[ι N,ι o2]) rfl);refine⟨qo H.o,d _ _ ?_⟩;clear d K z0 aZ aX aY
     repeat (first | (refine jl rfl rfl (qo H.o) ?_) | (refine qK rfl rfl (qo H.o) ?_;intro K d;go_big_quiet_op;go_big_quiet_on))
     refine zD ?_;go_wp2;go_meet;exact⟨A,rfl,rfl,ac.o,H.o⟩
    ·(refine qV rfl rfl ?_;intro K d;unfold jt;go_simp)
     refine⟨qo ((qh.drewN W6 1).al _),d _ _ ?_⟩;clear d K;obtain⟨w8,aA⟩:=ν ((W6.drewN 1).alloc (.cells #[ι 0,ι 0] 58));obtain⟨A,Y⟩:=ν (W6.heap.size);have bI:Hid (w8.heap[A]? =ϊ (.cells #[ι 0,ι 0] 58 (0,0))):=κ (by rw[<-aA,<-Y];exact qp (W6.drewN 1) _);have J:Hid (qh W6 w8):=κ (by rw[<-aA];exact(qh.drewN W6 1).al _);have ae:Hid (W6.heap.size<=A):=κ (by rw[<-Y];exact(qh.drewN W6 1).size)
     (try rw[aA])
     (try rw[Y])
     clear aA Y
     repeat (first | (refine jl rfl rfl (qo J.o) ?_) | (refine qK rfl rfl (qo J.o) ?_;intro K d;go_big_quiet_op;go_big_quiet_on))
     (refine qV rfl rfl ?_;intro K d;unfold jt;go_simp)
     refine(an.o _ J.o).mono ?_;rintro e w9 ⟨rfl,aV⟩;have aa:=κ (J.o.trans aV);have I:=κ (qj aV bI.o);clear aV;refine⟨_,rfl,qo aa.o,d _ _ ?_⟩;clear d K;have z0:=β0 I.o;have aZ:=β1 I.o;have aX:=ql I.o 0;have aY:=ql I.o 1
     repeat (first | (refine jl rfl rfl (qo aa.o) ?_) | (refine qK rfl rfl (qo aa.o) ?_;intro K d;go_big_quiet_op;go_big_quiet_on))
     (refine qV rfl rfl ?_;intro K d;unfold jt;go_simp)
     have H:Hid (qh W6 ((w9.setCell ⟨A,0,ϋ⟩ (ι N)).setCell ⟨A,1,ϋ⟩ (ι o2))):=κ ((aa.o.st ae.o _).st ae.o _);have ac:=κ (qF (qt (qt I.o 0 (ι N)) 1 (ι o2)) (cs':= #[ι N,ι o2]) rfl);refine⟨qo H.o,d _ _ ?_⟩;clear d K z0 aZ aX aY
     repeat (first | (refine jl rfl rfl (qo H.o) ?_) | (refine qK rfl rfl (qo H.o) ?_;intro K d;go_big_quiet_op;go_big_quiet_on))
     refine zD ?_;go_wp2;go_meet;exact⟨A,rfl,rfl,ac.o,H.o⟩
   case rest=>
   obtain⟨A,rfl,rfl,bp,bx⟩:=hcut;have ac:=κ bp;have H:=κ bx;clear bp bx bJ bT an;have ap:=κ (aq.o.on H.o);have bm:=κ (bo.o.trans ((aq.o.sub (F':=F) (λb ag=>ϔ _ ag)).at.stay H.o));cases bC with
   | false=>
    have cc:ab=ϋ:=by
     cases ab with
     | none=>rfl
     | some o=>cases ax
    have aI:Hid (sq.media b={sq with cnt:={sq.cnt with strange:=sq.cnt.strange+1}}):=κ (by rw[am.o,ah,cc]);have ce:0<=sq.cnt.strange/\sq.cnt.strange<=1000000000:=by rw[<-U.o];exact G.o.strange
    obtain⟨cv,cw⟩:=ce;have cn:=β18 ap.o.blk;have cp:=ql ap.o.blk 18;have bb:=κ (ap.o.at.cell 18 (ι (sq.cnt.strange+1)) (s':={sq with cnt:={sq.cnt with strange:=sq.cnt.strange+1}}) (λ_ _=>rfl) ⟨rfl,rfl,rfl,rfl,rfl,rfl,rfl,rfl,rfl⟩);go_wp2
    (refine bodyPost_ret (v:= .tuple #[]) ?re3 rfl ?_;(case re3=>simp[results,results79,go_sem]))
    exact⟨rfl,by rw[af.o,ώ ζ,aI.o];exact bb.o.1.sub (λb ag=>ϔ _ ag),ao.o.trans (bm.o.trans (bb.o.2.sub (λb ag=>ϔ _ ag)))⟩
   | true=>
    obtain⟨o,au⟩: ∃o,ab=ϊ o:=by
     cases ab with
     | none=>cases ax
     | some o=>exact⟨o,rfl⟩
    have aN:o=(N,o2):=by rw[au] at av aw;rw[<-av,<-aw];rfl
    have aI:Hid (sq.media b=sq.accept (N,o2) p):=κ (by rw[am.o,ah,au,aN]);have bw:(qm sq.strs (N,o2)).isSome=ό:=by
     have O:=ah;rw[au,aN] at O;rw[<-U.o] at O ⊢;exact G.o.orgs _ _ O
    obtain⟨t,aT⟩:=Ϟ.1 bw
    obtain⟨aG,aW,bD⟩:=Ui ak.o.1 (by
     intro ca;have O:=aJ.o;unfold jS at O;rw[ϒ ca] at O
     cases O)
    rw[bf.o] at aG aW bD;have aU:(t.any=ό->xQ t.great)/\ ∀sq,U16 sq->xQ (yJ t sq):=by
     have O:=aT;rw[<-U.o] at O;exact G.o.strs _ _ O
    have be:=κ (λ(cd:zu sq) (hck:xQ sq.clock) (jp:sq.pks.length<=1000000) (hcnt:0<=sq.cnt.acc/\sq.cnt.acc<=1000000000)=>Lh ap.o.at cd N o2 aT p _ _ _ (bU.o.keep H.o) bS.o bK.o aG (aU.2 _ aG) aU.1 hck jp hcnt aW τ);have bN:=κ (be.o (by rw[<-U.o];exact⟨G.o.subs.keys,G.o.subs.lane,G.o.subs.few⟩) (by rw[<-U.o];exact G.o.clock) (by rw[<-U.o];exact G.o.pks) (by rw[<-U.o];exact G.o.acc));have a0:=β0 ac.o;have cj:=β1 ac.o;have bP:Hid (wc.rangeAt w5.heap.size 0 (Γh p os aD aE ke aF aC)):=κ (jQ (qj H.o ba.o));clear be aU aG aW bD bw aT au aN ah av aw ax
    go_wp2_with (first | (refine wpList_load_mid rfl 63 (.tmp 8) rfl w5.heap.size 0 rfl (Γh p os aD aE ke aF aC) _ bP.o underlying63 rfl ξ ?_) | (go_at_call 132;(go_call bN.o as e cC ⟨rfl,bs,bE⟩;have bL:=κ bs;have bV:=κ bE;clear bs bE)))
    (refine bodyPost_end (v:= .tuple #[]) ?re1 rfl ?_;(case re1=>simp[results,results79,go_sem]))
    exact⟨rfl,by rw[af.o,ώ ζ,aI.o];exact bL.o,ao.o.trans (bm.o.trans bV.o)⟩
  ·have ck:(bq != 0)=ό:=by simp[he]
   have am:Hid (sq.media b={sq with cnt:={sq.cnt with malf:=sq.cnt.malf+1}}):=κ (by unfold RmS.media;rw[aJ.o,ώ he]);clear he;have cb:0<=sq.cnt.malf/\sq.cnt.malf<=1000000000:=by rw[<-U.o];exact G.o.malf
   obtain⟨cq,cr⟩:=cb;have bc:=κ (aj.o.on bk.o);obtain⟨cz,cA,aH⟩:=bc.o.blk;have cm:=β17 aH;have co:=ql aH 17;clear aH;have bd:=κ (bc.o.cell 17 (ι (sq.cnt.malf+1)) (s':={sq with cnt:={sq.cnt with malf:=sq.cnt.malf+1}}) (λ_ _=>rfl) ⟨rfl,rfl,rfl,rfl,rfl,rfl,rfl,rfl,rfl⟩);go_wp2
   (refine bodyPost_ret (v:= .tuple #[]) ?re4 rfl ?_;(case re4=>simp[results,results79,go_sem]))
   exact⟨rfl,by rw[af.o,ώ ζ,am.o];exact bd.o.1,ao.o.trans (bo.o.trans bd.o.2)⟩
def acC (a:AcS) (vs ve vl:Value):List Value:=[.int .i64 a.o.1,.int .i64 a.o.2,.int .i64 a.num,.bool a.pk.mr,.int .u8 a.pk.ty,.int .u16 a.pk.sq,.int .u32 a.pk.st,.int .u32 a.pk.sc,vs,.bool a.pk.has,.int .u16 a.pk.pr,ve,vl]
def RmP (cs:List Value) (a:AcS) (w0 w:World) (k:RmK) (s:RmS) (F:List Nat):Prop:= ∃T vp vr,RmX T w0 w k vp vr s F/\jv RAc (λb=>T b≠ .data/\T b≠ .pks) w cs a
section
variable {T:Nat->Tg} {w0 w w':World} {k:RmK} {vp vr:Value} {s:RmS} {F:List Nat} {cs:List Value} {a:AcS}
def RmP.at (h:RmP cs a w0 w k s F):qL w0 w k s F:=by
 obtain⟨T,vp,d,x,_⟩:=h;exact⟨T,vp,d,x⟩
def RmP.on (h:RmP cs a w0 w k s F) (m:qh w w'):RmP cs a w0 w' k s F:=by
 obtain⟨T,vp,G,x,d⟩:=h;exact⟨T,vp,G,x.on m,d.step (qk.of_more m)⟩
def RmP.adds {Fn:List Nat} (h:RmP cs a w0 w k s F) (m:qh w w') (G: ∀b∈Fn,w.heap.size<=b/\b<w'.heap.size):RmP cs a w0 w' k s (Fn++F):=by
 obtain⟨T,vp,H,x,d⟩:=h;exact⟨T,vp,H,x.adds m G,d.step (qk.of_more m)⟩
def RmP.pk {H d G:Value} (h:RmP (acC a H d G) a w0 w k s F):PkS w H d G a.pk:=by
 obtain⟨T,vp,O,x,I⟩:=h;obtain⟨J,N,v3,e,pk⟩:=I.read;unfold acC at e;simp only[O5,and_true,true_and] at e;obtain⟨rfl,rfl,rfl⟩:=e;exact pk
def RmX.growP (h:RmX T w0 w k vp vr s F) {t:Tg} (G:t≠ .data) (H:t≠ .pks) (J:qk (λb=>T b=t) w w') (I:jv RAc (λb=>T b≠ .data/\T b≠ .pks) w cs a):jv RAc (λb=>xk T t w w' b≠ .data/\xk T t w w' b≠ .pks) w' cs a:=
 (I.step (J.mono λb d=>by rw[d];exact⟨G,H⟩)).other λb d=>ϐ ⟨λe=>d.1 ((jO h.fresh η (C6 G) b).2 e),λe=>d.2 ((jO h.fresh η (C6 H) b).2 e)⟩
def RmX.lanePutX (h:RmX T w0 w k vp vr s F) {x:Int} {l l':LnS} {p:Nat} (U:qm s.lanes x=ϊ l) (I:qm k.LA x=ϊ p) (b:zZ (xy (λb=>T b= .lane x) w w') w' p l') (a:qk (λb=>T b= .lane x) w w'):
  RmX (xk T (.lane x) w w') w0 w' k vp vr {s with lanes:=qB s.lanes x l'} F/\qA F w w':=by
 have J:=h.fresh;exact h.own (t:= .lane x) (k':=k) (vp':=vp) (vr':=vr) (s':={s with lanes:=qB s.lanes x l'}) ⟨η,η⟩ a
  ⟨λab aa G d=>by
   rw[I] at G;rw[xq] at d;injection G with G
   injection d with d
   subst G d;rw[gQ J η]
   exact b,by rw[I,xq];rfl⟩
  (λu N Y y=>by
   cases u<;>first | exact y | skip
   rename_i O;have H:O≠x:=λe=>N (by rw[e])
   exact⟨λp l G d=>y.1 p l G (by rw[kg _ _ H] at d;exact d),by rw[kg _ _ H];exact y.2⟩)
def RmX.bookX (h:RmX T w0 w k vp vr s F) {m:Bk} (b:jE w' k.B k.b m) (a:qk (λx=>x=k.b) w w'):RmX (xk T .book w w') w0 w' k vp vr {s with book:=m} F/\qA F w w':=by
 obtain⟨H,d,_⟩:=h.all .book;have G:=h.fresh;exact h.own (t:= .book) (k':=k) (vp':=vp) (vr':=vr) (s':={s with book:=m}) ⟨η,η⟩ (a.mono λb I=>by rw[I];exact d) ⟨(jj G η _).2 (ϐ H),(jj G η _).2 (ϐ d),b⟩ (λu J N x=>by cases u<;>first | exact x | exact ϧ rfl J)
def FU (h:RmP cs a w0 w k s F) (sub id f:Int):
  Calls prog 122 #[θ #[γ k.B],ι sub,ι id,ι f] w λe w'=>e= .returned (.tuple #[])/\RmP cs a w0 w' k {s with book:=jn s.book sub id f} F/\qA F w w':=by
 obtain⟨T,vp,O,x,G⟩:=h;have J:=(x.all .book).2.1;refine(QB x.bok sub id f).mono ?_;rintro e w' ⟨rfl,b,d⟩;obtain⟨H,I⟩:=x.bookX b d;exact⟨rfl,⟨_,_,_,H,x.growP η η (d.mono λb N=>by rw[N];exact J) G⟩,I⟩
def Ra (h:RmP cs a w0 w k s F) (x:ItS) (os J N:Option Addr) (I ke H:Nat) (ag:PkS w (δ os x.pk.ss.length I) (δ J x.pk.ex.length ke) (δ N x.pk.pl.length H) x.pk) (af:ud x.pk) (ah:gG x.pk)
  {sub:Int} {l:LnS} {pl:Nat} (O:qm s.lanes sub=ϊ l) (Y:qm k.LA sub=ϊ pl):
  Calls prog 136 #[γ pl,(Γj x os I J ke N H)] w λe w'=>e= .returned (.tuple #[ι (jL l x).2.1,μ (jL l x).2.2.1,ι (jL l x).2.2.2])/\
   RmP cs a w0 w' k {s with lanes:=qB s.lanes sub (jL l x).1} F/\qA F w w'/\qk (λb=>b≠k.R/\b≠k.ML/\b∉F) w w':=by
 obtain⟨T,vp,ak,y,aa⟩:=h;have ab:=(y.all .room).1;have ac:=(y.all .lns).1;have ad:=y.law;obtain⟨p2,U,ae⟩:=y.laneAt O;obtain rfl:p2=pl:=by rw[Y] at U;injection U with e;exact e.symm
 refine(Mk ae x os J N I ke H ag af ah).mono ?_;rintro e w' ⟨rfl,b,G⟩;obtain⟨ai,aj⟩:=y.lanePutX O Y b G;exact⟨rfl,⟨_,_,_,ai,y.growP η η G aa⟩,aj,G.mono λb d=>⟨λe=>by rw[e,ab] at d;(cases d),λe=>by rw[e,ac] at d;(cases d),λe=>by rw[(ad b e).1] at d;(cases d)⟩⟩
def RmX.pkRow (h:RmX T w0 w k vp vr s F) {i:Nat} (hi:i<s.pks.length): ∃g cap os H I G ke d,vp= δ (ϊ ⟨g,0,ϋ⟩) s.pks.length cap/\T g= .pks/\g<w.heap.size/\(∀j v,(acC s.pks[i] (δ os s.pks[i].pk.ss.length G) (δ H s.pks[i].pk.ex.length ke) (δ I s.pks[i].pk.pl.length d))[j]? =ϊ v->w.cell? ⟨g,i* 13+j,ϋ⟩=ϊ v)/\
  RmP (acC s.pks[i] (δ os s.pks[i].pk.ss.length G) (δ H s.pks[i].pk.ex.length ke) (δ I s.pks[i].pk.pl.length d)) s.pks[i] w0 w k s F:=by
 obtain⟨⟨⟨xs,Y,r⟩,_⟩,ac⟩:=h.all .pks;rcases id Y.2 with ⟨_,ad⟩ | ⟨g,cap,cur,rfl,af,N,ae,ag,_⟩
 ·omega
 ·have O:=r i hi;obtain⟨aj,ah,ai,e,pk⟩:=O.read;obtain⟨os,G,rfl,_⟩:=id pk.s;obtain⟨H,ke,rfl,_⟩:=id pk.e;obtain⟨I,d,rfl,_⟩:=id pk.l;refine⟨g,cap,os,H,I,G,ke,d,rfl,ac g rfl,lt_of_block N,λj v U=> ?_,T,_,vr,h, ?_⟩
  ·have ab:j<13:=by
    have:=(ϟ.1 U).1
    simpa [acC] using this
   rw[Y.cellAt _ τ];have J:=ϰ (λl:List Value=>l[j]?) e;simp only[A8,D4] at J;rw[ϒ ab] at J;rw[J];exact U
  ·have aa:(xs.drop (i* 13)).take 13=acC s.pks[i] (δ os s.pks[i].pk.ss.length G) (δ H s.pks[i].pk.ex.length ke) (δ I s.pks[i].pk.pl.length d):=e;rw[<-aa];exact O.other λb N=>ϐ (ϐ N)
end
end Go.Proofs.YtlmllmonabafjaaGreatDoor
