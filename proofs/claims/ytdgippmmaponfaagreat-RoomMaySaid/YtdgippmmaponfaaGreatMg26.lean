/- Contracts of the functions that the law reaches, and plain laws; no conditions but those written at each. -/
import Derived.Test.YtdgippmmaponfaaGreatMg25
namespace Go.Proofs.YtdgippmmaponfaaGreat
open Go.Value renaming bool->μ,slice->δ,pointer->π,agg->θ
open Go.IntKind renaming i64->ι,u8->υ,u16->φ,u32->ω,i32->χ,u64->ψ
open _root_.Go.Proofs.Tryz
set_option linter.unusedSimpArgs false
set_option maxHeartbeats 8000000
set_option linter.unusedVariables false
open Go.RowKit
set_option maxRecDepth 100000
theorem RmR.rkeys {d w:World} {R:Nat} {s:RmS} {F:List Nat} (h:RmR d w R s F):(s.ret.map Prod.fst).Nodup:=by
 obtain⟨k,rfl,T,vp,G,h⟩:=h;exact h.retm.keys
theorem Wx (s:RmS):s.workers.length<=20:=by
 have h:=Wy s.there subIds;exact Nat.le_trans h ζ
theorem Eo {s:RmS} (d:wN s) (G:(s.ret.map Prod.fst).Nodup):s.ret.length<=1000000:=by
 have h:=yr G (m:=s.workers) (λx I=>by
  obtain⟨v,H⟩:=QB I
  exact(d.vals x v H).2)
 have J:=Wx s;rw[List.length_map] at h;omega
theorem Av {d w:World} {R:Nat} {s:RmS} {F:List Nat} (h:RmR d w R s F):Calls prog 18 #[γ R] w λe w'=> ∃oa cap,e= .returned (δ oa s.workers.length cap)/\JQ w' oa s.workers/\qa w w':=by
 obtain⟨k,rfl,T,vp,G,h⟩:=h;exact Xr h
theorem BQ (s:RmS) (a:A22) (h:a.act=1):(doR s a).2.2=s.may a.w:=by
 rw[Xn a h];unfold RmS.pick;split
 ·rename_i e;exact e.symm
 ·rename_i e;exact(Bool.eq_false_iff.2 e).symm
theorem EK (s:RmS) (a:A22) (h: ¬a.act=1) (J:(doR s a).1.closed=true) (G:0<=a.act) (I:a.act<=7):(doR s a).2.1=7:=by
 obtain⟨_,_,d,H⟩:=QG (s:=s) a h;rw[J,decide_eq_false τ,Bool.or_false] at d;exact H d.symm ⟨G,I⟩
structure Am (s:RmS):Prop where
 queue:s.queue=[]
 held:s.closed=true->s.held=0
 ended:s.closed=true->s.ended=true
 none: ∀x a b c p g t,Ib s x a b c p g t->a=0/\b=0/\c=0/\p<=s.held
theorem Ih {n:Nat} {s:RmS} (h:qV n s) (ac:wN s) (ad:(s.book.map Prod.fst).Nodup) (af:(s.ret.map Prod.fst).Nodup) (ae: ∀i (hi:i<s.workers.length),s.may s.workers[i]=false):Am s:=by
 obtain⟨Y,M,aa,ab⟩:=GU h ac ad af (λw ag=>by
  obtain⟨i,hi,rfl⟩:=List.mem_iff_getElem.1 ag
  exact ae i hi)
 refine⟨Y,λc=>(M c).1,λc=>(M c).2,λx a b c p g t I=> ?_⟩;have J:=ab x;rw[I.p] at J;have d:=I.a;have G:=I.b;have H:=I.c;unfold RmS.ln at d G H;cases e:qh s.lanes x with
 | none=>
  rw[e] at d G H;exact⟨d.symm,G.symm,H.symm,J⟩
 | some l=>
  obtain⟨N,O,U⟩:=aa x l e;rw[e] at d G H;simp only[Option.getD_some,N,O,U,List.length_nil] at d G H;exact⟨d.symm,G.symm,H.symm,J⟩
theorem Pw (a b c x y z:Int) (w:World):(binOp .neq 72 (θ #[ι a,ι b,ι c]) (θ #[ι x,ι y,ι z])).run prog w= .ok (μ (!decide ([a,b,c]=[x,y,z]))) w:=by
 obtain⟨i,hi⟩: ∃i,prog.info? 3=some i:=⟨_,rfl⟩;exact Fy (la:=[a,b,c]) (lb:=[x,y,z]) underlying72 hi ξ underlying3 isAgg3 rfl rfl w
theorem GR {w:World} {b t:Nat} {cs:List Value} (h:w.heap[b]? =some (.cells cs.toArray t (0,0))):w.rangeAt b 0 cs:=λj v d=>by
 rw[Nat.zero_add];exact qb h j (by simpa using d)
theorem Kw (c:CfR) (N:Option Addr) (n cap:Nat) (w:World) (h:xY c=false):
  Calls prog 4 #[θ #[ι c.room,ι c.hold,ι c.wait,ι c.space,ι c.retry,ι c.most],δ N n cap] w λe w'=>e= .returned (μ true)/\qa w w':=by
 have I:=κ (YL c h);clear h
 go_enter func4,ntmps4
 go_wp2_with (first | (go_at_call 6;(go_call yM _ as e w1 ⟨rfl,G⟩;have d:=κ (qc G (qj w (.cells #[ι c.room,ι c.hold,ι c.wait,ι c.space,ι c.retry,ι c.most] 25)));have J:Hid (qa w w1):=κ ((qa.alloc _ _).trans G);have O:w1.cell? ⟨w.heap.size,0,none⟩=some (ι c.room):=qb d.o 0 rfl;have U:w1.cell? ⟨w.heap.size,1,none⟩=some (ι c.hold):=qb d.o 1 rfl;have Y:w1.cell? ⟨w.heap.size,2,none⟩=some (ι c.wait):=qb d.o 2 rfl;have aa:w1.cell? ⟨w.heap.size,3,none⟩=some (ι c.space):=qb d.o 3 rfl;have ab:w1.cell? ⟨w.heap.size,4,none⟩=some (ι c.retry):=qb d.o 4 rfl;have ac:w1.cell? ⟨w.heap.size,5,none⟩=some (ι c.most):=qb d.o 5 rfl;clear G)) | (go_at_call 7;(go_call I.o _ as e w2 ⟨rfl,H⟩;have M:Hid (qa w w2):=κ (J.o.trans H);clear H)))
 go_ret;exact⟨rfl,M.o⟩
theorem Zo (c:CfR) (v:Value) (l:List A22) (w:World) (h:xY c=true) (O:SlP 14 uh w v l) (J:yk l=true):
  Calls prog 4 #[θ #[ι c.room,ι c.hold,ι c.wait,ι c.space,ι c.retry,ι c.most],v] w λe w'=>e= .returned (μ true)/\qa w w':=by
 have U:=κ (JN c h);have H:=κ (λw1 (G:qa w w1)=>uS v l w1 (O.keep kj G));rw[J] at H;clear h O J
 go_enter func4,ntmps4
 go_wp2_with (first | (go_at_call 6;(go_call yM _ as e w1 ⟨rfl,G⟩;have d:=κ (qc G (qj w (.cells #[ι c.room,ι c.hold,ι c.wait,ι c.space,ι c.retry,ι c.most] 25)));have Y:Hid (qa w w1):=κ ((qa.alloc _ _).trans G);have ad:w1.cell? ⟨w.heap.size,0,none⟩=some (ι c.room):=qb d.o 0 rfl;have ae:w1.cell? ⟨w.heap.size,1,none⟩=some (ι c.hold):=qb d.o 1 rfl;have af:w1.cell? ⟨w.heap.size,2,none⟩=some (ι c.wait):=qb d.o 2 rfl;have ag:w1.cell? ⟨w.heap.size,3,none⟩=some (ι c.space):=qb d.o 3 rfl;have ah:w1.cell? ⟨w.heap.size,4,none⟩=some (ι c.retry):=qb d.o 4 rfl;have ai:w1.cell? ⟨w.heap.size,5,none⟩=some (ι c.most):=qb d.o 5 rfl;clear G)) | (go_at_call 7;(go_call U.o _ as e w2 ⟨R,rfl,ab,M⟩;have I:Hid (qa w w2):=κ (Y.o.trans M);clear ab M)) | (go_at_call 8;(go_call H.o _ I.o as e ac ⟨rfl,N⟩;have aa:Hid (qa w ac):=κ (I.o.trans N);clear N)))
 go_ret;exact⟨rfl,aa.o⟩
theorem Y5 (c:CfR) (v:Value) (l:List A22) (w:World) (h:xY c=true) (aR:SlP 14 uh w v l) (aJ:yk l=false):
  Calls prog 4 #[θ #[ι c.room,ι c.hold,ι c.wait,ι c.space,ι c.retry,ι c.most],v] w λe w'=>e= .returned (μ true)/\qa w w':=by
 have ce:=κ (JN c h);have cg:=κ (uQ h);have aY:=κ (λw1 (ae:qa w w1)=>uS v l w1 (aR.keep kj ae));rw[aJ] at aY;obtain⟨cR,cap,rfl,cL,bt⟩:=Yt aR;have cc:=κ bt;have bg:=κ (Xj aJ);have cJ:l.length<=150:=bg.o.1;clear h aR aJ bt
 go_enter func4,ntmps4
 go_wp2_with (first | (go_at_call 6;(go_call yM _ as e w1 ⟨rfl,ae⟩;have H:=κ (qc ae (qj w (.cells #[ι c.room,ι c.hold,ι c.wait,ι c.space,ι c.retry,ι c.most] 25)));have an:Hid (qa w w1):=κ ((qa.alloc _ _).trans ae);have cS:w1.cell? ⟨w.heap.size,0,none⟩=some (ι c.room):=qb H.o 0 rfl;have cT:w1.cell? ⟨w.heap.size,1,none⟩=some (ι c.hold):=qb H.o 1 rfl;have cU:w1.cell? ⟨w.heap.size,2,none⟩=some (ι c.wait):=qb H.o 2 rfl;have cV:w1.cell? ⟨w.heap.size,3,none⟩=some (ι c.space):=qb H.o 3 rfl;have cW:w1.cell? ⟨w.heap.size,4,none⟩=some (ι c.retry):=qb H.o 4 rfl;have cX:w1.cell? ⟨w.heap.size,5,none⟩=some (ι c.most):=qb H.o 5 rfl;clear ae)) | (go_at_call 7;(go_call ce.o _ as e w2 ⟨R,rfl,bo,aQ⟩;have bm:Hid (qa w w2):=κ (an.o.trans aQ);have bY:=κ bo;have bU:=κ (qc aQ H.o);clear bo aQ)) | (go_at_call 8;(go_call aY.o _ bm.o as e cz ⟨rfl,aq⟩;have bZ:=κ (bY.o.on aq);have cA:=κ (qc aq bU.o);have cB:Hid (qa w cz):=κ (bm.o.trans aq);clear aq)))
 go_loopw [7,38] (λo i wr=> ∃j:Nat,j<=l.length/\i= ι j/\ ∃s:RmS,o= μ (!s.closed)/\RmR w1 wr R s []/\qV j s/\wN s) (λ_ i _=>l.length-(intOf i).toNat)
 case atStart=>exact⟨0,τ,rfl,_,rfl,bZ.o,cg.o,wN.nil rfl⟩
 case round=>
  obtain⟨j,cI,rfl,s,rfl,ad,bv,bu⟩:=hrel;have d:=κ ad;have ai:=κ bv;have cd:=κ bu;clear ad bv bu;by_cases hlt:j<l.length
  ·obtain⟨b,cy,U,N,rfl,I,bH,bF,bB,bD,bC,bG⟩:=cc.o j hlt;have bc:=κ (bH wr (an.o.trans d.o.more));have aZ:=κ (bg.o.2 j hlt);have bf:=κ (bF.keep ((an.o.trans d.o.more).al (.cells #[ι (l.getD j jv).act,ι (l.getD j jv).sub,ι (l.getD j jv).pub,ι (l.getD j jv).layer,δ U (l.getD j jv).b.length N,ι (l.getD j jv).w.1,ι (l.getD j jv).w.2,μ (l.getD j jv).acc,ω (l.getD j jv).own,ω (l.getD j jv).stamp,φ (l.getD j jv).seq,ω (l.getD j jv).s0,ω (l.getD j jv).s1,ω (l.getD j jv).s2] 41)));have av:=κ bB;have bi:=κ bD;have ba:=κ bC;have bh:=κ bG;have cw:(j:Int)<(l.length:Int):=by omega
   clear bH bF bB bD bC bG I;generalize l.getD j jv=x at *;have aA:=κ (d.o.adds (Fn:=[wr.heap.size]) (qa.alloc wr (.cells #[ι x.act,ι x.sub,ι x.pub,ι x.layer,δ U x.b.length N,ι x.w.1,ι x.w.2,x.acc,ω x.own,ω x.stamp,φ x.seq,ω x.s0,ω x.s1,ω x.s2] 41)) (λb I=>(by simp at I;subst I;simp)));have af:=κ (qj wr (.cells #[ι x.act,ι x.sub,ι x.pub,ι x.layer,δ U x.b.length N,ι x.w.1,ι x.w.2,x.acc,ω x.own,ω x.stamp,φ x.seq,ω x.s0,ω x.s1,ω x.s2] 41));have aw:=κ (λw5 O=>HV (w:=w5) (aA.o.on O) ai.o τ x U N (bf.o.keep O) av.o aZ.o ba.o bi.o);have M:=κ (KZ ai.o d.o.tkeys x av.o aZ.o bh.o);obtain⟨cm,aE⟩:=ν (s.may (x.w.1,x.w.2));have ca:=κ aE;have aj:=κ (BQ s x);have ab:=κ (EK s x);have aa:=κ (IP cd.o ai.o.ow x);have Y:=κ (UY (s:=s) x);rw[show s.may x.w=cm from aE] at aj;obtain⟨s2,aM⟩:=ν ((doR s x).1);obtain⟨cH,aH⟩:=ν ((doR s x).2.1);obtain⟨cn,aF⟩:=ν ((doR s x).2.2);rw[aM,aH,aF] at aw;rw[aM] at M aa Y ab;rw[aH] at ab;rw[aF] at aj;clear aE aM aH aF;have cv:j<=1000:=by omega
   have bn:j+1<=1000:=by omega
   have cp:=β5 af.o;have cq:=β6 af.o
   go_upto_region 12 with (first | (refine wpList_load_mid rfl 41 (.tmp 40) rfl b (cy+j* 14) rfl [ι x.act,ι x.sub,ι x.pub,ι x.layer,δ U x.b.length N,ι x.w.1,ι x.w.2,x.acc,ω x.own,ω x.stamp,φ x.seq,ω x.s0,ω x.s1,ω x.s2] _ bc.o underlying41 rfl ξ ?_) | (go_at_call 17;(go_call Hv aA.o ai.o cv x.w.1 x.w.2 ca.o as e w5 ⟨rfl,O⟩;have aW:=κ (aw.o _ O);have au:=κ (qc O af.o);have bd:=κ (GR au.o);clear O cp cq)) | (refine wpList_load_mid rfl 41 (.tmp 9) rfl wr.heap.size 0 rfl [ι x.act,ι x.sub,ι x.pub,ι x.layer,δ U x.b.length N,ι x.w.1,ι x.w.2,x.acc,ω x.own,ω x.stamp,φ x.seq,ω x.s0,ω x.s1,ω x.s2] _ bd.o underlying41 rfl ξ ?_) | (go_at_call 9;(go_call aW.o as e w6 ⟨rfl,bp,bR⟩;have ag:=κ bp;have aS:=κ (bR.blk η au.o);have co:=β0 aS.o;clear bp bR)))
   obtain⟨bP,aK⟩:=ν (decide (x.act=8));obtain⟨cE,aG⟩:=ν (s.closed);obtain⟨aD,ao⟩:=ν (s2.closed);rw[ao,aG,aK] at Y;rw[ao] at ab
   (try rw[aG])
   have ah:=κ ao;have az:=κ aK;clear ao aG aK
   go_cut [59] from 39 to 145 (λv G=>v= μ false/\w6=G)
   case first=>
    by_cases h1:x.act=1
    ·have e:=aj.o h1;subst e;cases cn
     all_goals
      go_wp2;go_meet;exact⟨rfl,rfl⟩
    ·go_wp2;go_meet;exact⟨rfl,rfl⟩
   case rest=>
   obtain⟨rfl,rfl⟩:=hcut
   go_upto_region 14 with fail
   go_cut [62] from 39 to 145 (λv G=>v= μ bP/\w6=G)
   case first=>
    by_cases h8:x.act=8
    ·go_wp2;go_meet;exact⟨by rw[<-az.o,decide_eq_true h8],rfl⟩
    ·go_wp2;go_meet;exact⟨by rw[<-az.o];simp[h8],rfl⟩
   case rest=>
   obtain⟨rfl,rfl⟩:=hcut
   go_upto_if 62 with fail
   go_cut [7] from 39 to 145 (λv G=>v= μ (!aD)/\w6=G)
   case first=>
    cases bP
    ·go_wp2;go_meet;exact⟨by rw[Y.o,Bool.or_false],rfl⟩
    ·go_wp2;go_meet;exact⟨by rw[Y.o,Bool.or_true];rfl,rfl⟩
   case rest=>
   obtain⟨rfl,rfl⟩:=hcut
   go_upto_region 16 with fail
   go_cut [83] from 39 to 145 (λv G=>v= μ false/\w6=G)
   case first=>
    by_cases h1:x.act=1
    ·go_wp2;go_meet;exact⟨rfl,rfl⟩
    ·cases aD
     ·go_wp2;go_meet;exact⟨rfl,rfl⟩
     ·by_cases g0:0<=x.act
      ·by_cases g7:x.act<=7
       ·have e:=ab.o h1 rfl g0 g7;subst e;go_wp2;go_meet;exact⟨rfl,rfl⟩
       ·go_wp2;go_meet;exact⟨rfl,rfl⟩
      ·go_wp2;go_meet;exact⟨rfl,rfl⟩
   case rest=>
   obtain⟨rfl,rfl⟩:=hcut;have ag:Hid (RmR w1 w6 R s2 []):=κ (ag.o.sub η);clear co aS au bd aW aw aj ab Y az bf bc av bi ba bh af aA
   go_wp2_with ((go_at_call 18;(go_call Av ag.o as e w8 ⟨ow,cG,rfl,bI,bN⟩;have aV:=κ (ag.o.on bN);have aB:=κ bI;clear bI bN)))
   obtain⟨L,ac⟩:=ν (s2.workers);have cj:=κ ac;have cK:L.length<=20:=by rw[<-ac];exact Wx s2
   rw[ac] at aB
   (try rw[ac])
   clear ac
   go_loopw [13,87] (λu i wr=> ∃y:Nat,y<=L.length/\i= ι y/\ ∃q:Bool,u= μ q/\(q=false-> ∀z (aP:z<L.length),z<y->s2.may L[z]=false)/\qa w8 wr) (λ_ i _=>L.length-(intOf i).toNat)
   case atStart=>exact⟨0,τ,rfl,false,rfl,λ_ z _ h=>by omega,qa.refl _⟩
   case round=>
    obtain⟨y,cx,rfl,q,rfl,bA,bz⟩:=hrel;have ay:=κ bA;have ax:=κ bz;clear bA bz;by_cases hlt2:y<L.length
    ·have aO:(y:Int)<(L.length:Int):=by omega
     obtain⟨cD,rfl,cr,ct⟩:=aB.o.2 _ ax.o y hlt2;obtain⟨bQ,aL⟩:=ν (s2.may (L[y].1,L[y].2));have bb:=κ aL
     have cf:Hid ((q||bQ)=false-> ∀z (aP:z<L.length),z<y+1->s2.may L[z]=false):=κ (λh z aP cN=>by
      rw[Bool.or_eq_false_iff] at h;by_cases e:z<y
      ·exact ay.o h.1 z aP e
      ·obtain rfl:z=y:=by omega
       rw[<-h.2]
       exact aL)
     clear aL;generalize L[y]=yw at *;obtain⟨bS,bT⟩:=yw;simp only at cr ct bb;have aC:=κ (ax.o.trans (qa.alloc wr (.cells #[ι bS,ι bT] 36)));have ci:=κ (aV.o.on aC.o);cases q
     ·go_wp2_with ((go_at_call 17;(go_call Hv ci.o M.o bn bS bT bb.o as e w9 ⟨rfl,bO⟩;have cl:=κ (aC.o.trans bO);clear bO)))
      go_roundw
      case rel=>exact⟨y+1,τ,by go_num,bQ,rfl,cf.o,cl.o⟩
      case measure=>simp[intOf];omega
     ·go_wp2;go_roundw
      case rel=>exact⟨y+1,τ,by go_num,true,rfl,(λh=>by cases h),aC.o⟩
      case measure=>simp[intOf];omega
    ·obtain rfl:y=L.length:=by omega
     have aO: ¬(L.length:Int)<(L.length:Int):=by omega
     have J:=κ (aV.o.on ax.o);cases q
     ·have ak:Hid (Am s2):=κ (by
       have e:=cj.o;subst e
       exact Ih M.o aa.o J.o.bkeys J.o.rkeys (λi hi=>ay.o rfl i hi hi))
      obtain⟨ap,aI⟩:=ν (s2.held);have bj:=κ (Yn J.o (a:=0) (b:=(ap:Int)) (by rw[ak.o.queue];rfl) (by rw[aI]));have aX:=κ aI;have be:=κ (Eo aa.o J.o.rkeys);clear aI aB ay
      go_upto_region 26 with ((go_at_call 11;(go_call bj.o as e w10 ⟨rfl,bJ⟩;have aT:=κ (J.o.on bJ);clear bJ)))
      go_cut [17,118] from 39 to 145 (λa v G=>a= ι (ap:Int)/\v= μ false/\qa w10 G)
      case first=>
       cases aD
       ·go_wp2;go_meet;exact⟨rfl,rfl,qa.refl _⟩
       ·have cu:(ap:Int)=0:=by rw[<-aX.o,ak.o.held ah.o];rfl
        have cb:=κ (KY aT.o be.o (ak.o.ended ah.o))
        go_wp2_with ((go_at_call 19;(go_call cb.o as e cY ⟨rfl,bK⟩;have ck:=κ bK;clear bK)))
        go_meet;exact⟨by rw[cu],rfl,ck.o⟩
      case rest=>
      obtain⟨rfl,rfl,bx⟩:=hcut;have bW:=κ (aT.o.on bx);clear bx bj be;go_wp2
      go_loopw [119] (λi wr=> ∃y:Nat,y<=6/\i= ι y/\RmR w1 wr R s2 []) (λi _=>6-(intOf i).toNat)
      case atStart=>exact⟨0,τ,rfl,bW.o⟩
      case round=>
       obtain⟨y,cx,rfl,ad⟩:=hrel;have d:=κ ad;clear ad;by_cases hlt6:y<6
       ·have aO:(y:Int)<6:=by omega
        obtain⟨a,b,c,p,g,t,aN⟩:=LB s2 (y:Int);have bk:=κ aN;obtain⟨br,I,bs,bE⟩:=ak.o.none _ _ _ _ _ _ _ aN;rw[aX.o] at bE;have bV:=λw=>Pw (a:Int) b c 0 0 0 w
        rw[show decide ([(a:Int),b,c]=[0,0,0])=true by rw[br,I,bs];rfl] at bV;have cM: ¬(ap:Int)<(p:Int):=by omega
        clear aN br I bs bE
        go_upto_region 32 with ((go_at_call 20;(go_call Hb d.o bk.o as e ar ⟨c1,c2,rfl,bL⟩;have bl:=κ bL;clear bL)))
        have bw:=bl.o.trans ((qa.alloc ar (.cells #[ι c1,ι c2] 71)).al (.cells #[ι a,ι b,ι c] 72));have am:((ar.alloc (.cells #[ι c1,ι c2] 71)).alloc (.cells #[ι a,ι b,ι c] 72)).heap[ar.heap.size+1]? =some (.cells #[ι a,ι b,ι c] 72 (0,0)):=qC η;generalize (ar.alloc (.cells #[ι c1,ι c2] 71)).alloc (.cells #[ι a,ι b,ι c] 72)=W13 at *;have cO:=β0 am;have cP:=β1 am;have cQ:=β2 am;have aU:=κ (d.o.on bw);obtain⟨B,cC,bq⟩:=F8 aU.o M.o bn (y:Int) bk.o.p;have ch:=κ bq;clear bw bq bl am
        go_wp2_with ((go_at_call 21;(go_call ch.o as e cZ ⟨⟨o,cF,rfl⟩,bM⟩;have bX:=κ (aU.o.on bM);clear bM)))
        go_roundw
        case rel=>exact⟨y+1,τ,by go_num,bX.o⟩
        case measure=>simp[intOf];omega
       ·obtain rfl:y=6:=by omega
        have aO: ¬((6:Nat):Int)<6:=by omega
        go_wp2;go_roundw
        case rel=>exact⟨j+1,τ,by go_num,_,by rw[ah.o],d.o,M.o,aa.o⟩
        case measure=>simp[intOf];omega
     ·go_wp2;go_roundw
      case rel=>exact⟨j+1,τ,by go_num,_,by rw[ah.o],J.o,M.o,aa.o⟩
      case measure=>simp[intOf];omega
  ·obtain rfl:j=l.length:=by omega
   have cw: ¬(l.length:Int)<(l.length:Int):=by omega
   go_wp2;go_ret;exact⟨rfl,an.o.trans d.o.more⟩
theorem Kv (cs:Array Value) (c:CfR) (v:Value) (l:List A22) (w:World) (G:KL w cs.toList c) (d:SlP 14 uh w v l):
  Calls prog 4 #[θ cs,v] w λe w'=>e= .returned (μ true)/\qa w w':=by
 obtain rfl:cs= #[ι c.room,ι c.hold,ι c.wait,ι c.space,ι c.retry,ι c.most]:=Array.toList_inj.1 G;cases hc:xY c with
 | false=>
  obtain⟨H,cap,rfl,_⟩:=id d;exact Kw c _ _ _ w hc
 | true=>
  cases hl:yk l with
  | true=>exact Zo c v l w hc d hl
  | false=>exact Y5 c v l w hc d hl
end Go.Proofs.YtdgippmmaponfaaGreat
