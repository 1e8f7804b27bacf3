/- Contracts of the functions that the law reaches, and plain laws; no conditions but those written at each. -/
import Derived.Test.YtdgippmmaponfaaGreatMg25
namespace Go.Proofs.YtdgippmmaponfaaGreat
open Go.Value renaming bool->μ,slice->δ,pointer->π,agg->θ
open Go.IntKind renaming i64->ι,u8->υ,u16->φ,u32->ω,i32->χ,u64->ψ
open _root_.Go.Proofs.Tryz
set_option linter.unusedSimpArgs false
set_option maxHeartbeats 8000000
set_option linter.unusedVariables false
open Go.RowKit
set_option maxRecDepth 100000
theorem Zq (c:CfR) (N:Option Addr) (n cap:Nat) (w:World) (h:xY c=false):
  Calls prog 5 #[θ #[ι c.room,ι c.hold,ι c.wait,ι c.space,ι c.retry,ι c.most],δ N n cap] w λe w'=>e= .returned (μ true)/\qa w w':=by
 have I:=κ (YL c h);clear h
 go_enter func5,ntmps5
 go_wp2_with (first | (go_at_call 6;(go_call yM _ as e w1 ⟨rfl,G⟩;have d:=κ (qc G (qj w (.cells #[ι c.room,ι c.hold,ι c.wait,ι c.space,ι c.retry,ι c.most] 25)));have J:Hid (qa w w1):=κ ((qa.alloc _ _).trans G);have O:w1.cell? ⟨w.heap.size,0,none⟩=some (ι c.room):=qb d.o 0 rfl;have U:w1.cell? ⟨w.heap.size,1,none⟩=some (ι c.hold):=qb d.o 1 rfl;have Y:w1.cell? ⟨w.heap.size,2,none⟩=some (ι c.wait):=qb d.o 2 rfl;have aa:w1.cell? ⟨w.heap.size,3,none⟩=some (ι c.space):=qb d.o 3 rfl;have ab:w1.cell? ⟨w.heap.size,4,none⟩=some (ι c.retry):=qb d.o 4 rfl;have ac:w1.cell? ⟨w.heap.size,5,none⟩=some (ι c.most):=qb d.o 5 rfl;clear G)) | (go_at_call 7;(go_call I.o _ as e w2 ⟨rfl,H⟩;have M:Hid (qa w w2):=κ (J.o.trans H);clear H)))
 go_ret;exact⟨rfl,M.o⟩
theorem Jr (c:CfR) (v:Value) (l:List A22) (w:World) (h:xY c=true) (O:SlP 14 uh w v l) (J:yk l=true):
  Calls prog 5 #[θ #[ι c.room,ι c.hold,ι c.wait,ι c.space,ι c.retry,ι c.most],v] w λe w'=>e= .returned (μ true)/\qa w w':=by
 have U:=κ (JN c h);have H:=κ (λw1 (G:qa w w1)=>uS v l w1 (O.keep kj G));rw[J] at H;clear h O J
 go_enter func5,ntmps5
 go_wp2_with (first | (go_at_call 6;(go_call yM _ as e w1 ⟨rfl,G⟩;have d:=κ (qc G (qj w (.cells #[ι c.room,ι c.hold,ι c.wait,ι c.space,ι c.retry,ι c.most] 25)));have Y:Hid (qa w w1):=κ ((qa.alloc _ _).trans G);have ad:w1.cell? ⟨w.heap.size,0,none⟩=some (ι c.room):=qb d.o 0 rfl;have ae:w1.cell? ⟨w.heap.size,1,none⟩=some (ι c.hold):=qb d.o 1 rfl;have af:w1.cell? ⟨w.heap.size,2,none⟩=some (ι c.wait):=qb d.o 2 rfl;have ag:w1.cell? ⟨w.heap.size,3,none⟩=some (ι c.space):=qb d.o 3 rfl;have ah:w1.cell? ⟨w.heap.size,4,none⟩=some (ι c.retry):=qb d.o 4 rfl;have ai:w1.cell? ⟨w.heap.size,5,none⟩=some (ι c.most):=qb d.o 5 rfl;clear G)) | (go_at_call 7;(go_call U.o _ as e w2 ⟨R,rfl,ab,M⟩;have I:Hid (qa w w2):=κ (Y.o.trans M);clear ab M)) | (go_at_call 8;(go_call H.o _ I.o as e ac ⟨rfl,N⟩;have aa:Hid (qa w ac):=κ (I.o.trans N);clear N)))
 go_ret;exact⟨rfl,aa.o⟩
theorem XW (c:CfR) (v:Value) (l:List A22) (w:World) (h:xY c=true) (ak:SlP 14 uh w v l) (ag:yk l=false):
  Calls prog 5 #[θ #[ι c.room,ι c.hold,ι c.wait,ι c.space,ι c.retry,ι c.most],v] w λe w'=>e= .returned (μ true)/\qa w w':=by
 have bh:=κ (JN c h);have bi:=κ (uQ h);have av:=κ (λw1 (M:qa w w1)=>uS v l w1 (ak.keep kj M));rw[ag] at av;obtain⟨ce,cap,rfl,bT,aL⟩:=Yt ak;have bf:=κ aL;have aB:=κ (Xj ag);have bS:l.length<=150:=aB.o.1;clear h ak ag aL
 go_enter func5,ntmps5
 go_wp2_with (first | (go_at_call 6;(go_call yM _ as e w1 ⟨rfl,M⟩;have H:=κ (qc M (qj w (.cells #[ι c.room,ι c.hold,ι c.wait,ι c.space,ι c.retry,ι c.most] 25)));have O:Hid (qa w w1):=κ ((qa.alloc _ _).trans M);have cf:w1.cell? ⟨w.heap.size,0,none⟩=some (ι c.room):=qb H.o 0 rfl;have cg:w1.cell? ⟨w.heap.size,1,none⟩=some (ι c.hold):=qb H.o 1 rfl;have ba:w1.cell? ⟨w.heap.size,2,none⟩=some (ι c.wait):=qb H.o 2 rfl;have ch:w1.cell? ⟨w.heap.size,3,none⟩=some (ι c.space):=qb H.o 3 rfl;have ci:w1.cell? ⟨w.heap.size,4,none⟩=some (ι c.retry):=qb H.o 4 rfl;have cj:w1.cell? ⟨w.heap.size,5,none⟩=some (ι c.most):=qb H.o 5 rfl;clear M)) | (go_at_call 7;(go_call bh.o _ as e w2 ⟨R,rfl,aH,aj⟩;have aE:Hid (qa w w2):=κ (O.o.trans aj);have bd:=κ aH;have bb:=κ (qc aj H.o);clear aH aj)) | (go_at_call 8;(go_call av.o _ aE.o as e bA ⟨rfl,Y⟩;have be:=κ (bd.o.on Y);have bC:=κ (qc Y bb.o);have bE:Hid (qa w bA):=κ (aE.o.trans Y);clear Y)))
 go_loopw [33] (λi wr=> ∃j:Nat,j<=l.length/\i= ι j/\ ∃s,RmR w1 wr R s []/\qV j s) (λi _=>l.length-(intOf i).toNat)
 case atStart=>exact⟨0,τ,rfl,_,be.o,bi.o⟩
 case round=>
  obtain⟨j,bR,rfl,s,J,aM⟩:=hrel;have G:=κ J;have au:=κ aM;clear J aM;by_cases hlt:j<l.length
  ·obtain⟨b,bz,aa,U,rfl,bs,aV,aS,aO,aQ,aP,aU⟩:=bf.o j hlt;have az:=κ (aV wr (O.o.trans G.o.more));have aw:=κ (aB.o.2 j hlt);have aA:=κ (aS.keep ((O.o.trans G.o.more).al (.cells #[ι (l.getD j jv).act,ι (l.getD j jv).sub,ι (l.getD j jv).pub,ι (l.getD j jv).layer,δ aa (l.getD j jv).b.length U,ι (l.getD j jv).w.1,ι (l.getD j jv).w.2,μ (l.getD j jv).acc,ω (l.getD j jv).own,ω (l.getD j jv).stamp,φ (l.getD j jv).seq,ω (l.getD j jv).s0,ω (l.getD j jv).s1,ω (l.getD j jv).s2] 41)));have ac:=κ aO;have aD:=κ aQ;have ax:=κ aP;have aC:=κ aU;have bu:(j:Int)<(l.length:Int):=by omega
   clear aV aS aO aQ aP aU bs;generalize l.getD j jv=x at *;have ay:=κ (G.o.on (qa.alloc wr (.cells #[ι x.act,ι x.sub,ι x.pub,ι x.layer,δ aa x.b.length U,ι x.w.1,ι x.w.2,x.acc,ω x.own,ω x.stamp,φ x.seq,ω x.s0,ω x.s1,ω x.s2] 41)));have ad:=κ (HV ay.o au.o τ x aa U aA.o ac.o aw.o ax.o aD.o);have I:=κ (KZ au.o G.o.tkeys x ac.o aw.o aC.o);obtain⟨s2,aT⟩:=ν ((doR s x).1);rw[aT] at ad I;have aG:j+1<=1000:=by omega
   go_wp2_with (first | (refine wpList_load_mid rfl 41 (.tmp 35) rfl b (bz+j* 14) rfl [ι x.act,ι x.sub,ι x.pub,ι x.layer,δ aa x.b.length U,ι x.w.1,ι x.w.2,x.acc,ω x.own,ω x.stamp,φ x.seq,ω x.s0,ω x.s1,ω x.s2] _ az.o underlying41 rfl ξ ?_) | (go_at_call 9;(go_call ad.o as e w5 ⟨rfl,aI,t5⟩;have am:=κ aI;clear aI t5)) | (go_at_call 11;(go_call Yn am.o rfl rfl as e w6 ⟨rfl,aX⟩;have an:=κ (am.o.on aX);clear aX)))
   have aq:=κ an.o.held;obtain⟨aK,af⟩:=ν (s2.held);rw[af] at aq;have ar:=κ af;clear af aT ad aA az ac aD ax aC ay
   (try rw[ar.o])
   go_loopw [45] (λi wr=> ∃y:Nat,y<=6/\i= ι y/\RmR w1 wr R s2 []) (λi _=>6-(intOf i).toNat)
   case atStart=>exact⟨0,τ,rfl,an.o⟩
   case round=>
    obtain⟨y,bV,rfl,J⟩:=hrel;have G:=κ J;clear J;by_cases hlt6:y<6
    ·have bv:(y:Int)<6:=by omega
     obtain⟨a,b,c,p,g,t,d⟩:=LB s2 (y:Int);have ae:=κ d;obtain⟨bw,bx,ah,ai⟩:=IA I.o G.o.bkeys (y:Int);rw[d.a,d.b,d.c,d.p] at bw;rw[d.a,d.b,d.c,d.p,ar.o] at bx;rw[d.g,d.p] at ah;rw[d.t,d.p] at ai;have aR:=Ez s2.book (y:Int);have bt:=I.o.num.book;rw[d.p] at aR;have bU:p<=6000:=by omega
     have bQ:=aq.o;have bk:=κ ah;have bl:=κ ai;clear aR bt ah ai d
     go_upto_region 15 with ((go_at_call 20;(go_call Hb G.o ae.o as e ab ⟨c1,c2,rfl,aY⟩;have aF:=κ aY;clear aY)))
     have aN:=aF.o.trans ((qa.alloc ab (.cells #[ι c1,ι c2] 71)).al (.cells #[ι a,ι b,ι c] 72));have N:((ab.alloc (.cells #[ι c1,ι c2] 71)).alloc (.cells #[ι a,ι b,ι c] 72)).heap[ab.heap.size+1]? =some (.cells #[ι a,ι b,ι c] 72 (0,0)):=qC η;generalize (ab.alloc (.cells #[ι c1,ι c2] 71)).alloc (.cells #[ι a,ι b,ι c] 72)=W8 at *;have cb:=β0 N;have cc:=β1 N;have cd:=β2 N;have ao:=κ (G.o.on aN);obtain⟨B,bF,aJ⟩:=F8 ao.o I.o aG (y:Int) ae.o.p;have bj:=κ aJ;clear aN aJ aF N;have bZ: ¬(p:Int)<(a:Int)+(b:Int)+(c:Int):=by omega
     have ca: ¬(a:Int)+(b:Int)+(c:Int)+(aK:Int)<(p:Int):=by omega
     have bW:(a:Int)+(b:Int)<=6000:=by omega
     have bX:(a:Int)+(b:Int)+(c:Int)<=6000:=by omega
     have bY:(a:Int)+(b:Int)+(c:Int)+(aK:Int)<=6072:=by omega
     have bD:=λbm c1 c2 c3 bn bo bp bq br w=>Mg bm c1 c2 c3 bn bo bp bq br w
     cases g<;>cases t
     all_goals
      have q:=bk.o;have ba:=bl.o;simp only[reduceCtorEq,false_implies,true_implies,forall_const] at q ba
      go_wp2_with (first | (go_at_call 21;(go_call bj.o as e w9 ⟨⟨o,bP,rfl⟩,aZ⟩;have ap:=κ (ao.o.on aZ);obtain⟨bB,bG,hF⟩:=IF ap.o I.o aG (y:Int) ae.o.p;have bg:=κ hF;clear aZ hF)) | (go_at_call 22;(go_call bg.o as e w10 ⟨⟨bH,bI,bJ,bK,bL,bM,bN,bO,rfl⟩,aW⟩;have bc:=κ (ap.o.on aW);clear aW)))
      go_roundw
      case rel=>exact⟨y+1,τ,by go_num,bc.o⟩
      case measure=>simp[intOf];omega
    ·obtain rfl:y=6:=by omega
     have bv: ¬((6:Nat):Int)<6:=by omega
     go_wp2;go_roundw
     case rel=>exact⟨j+1,τ,by go_num,_,G.o,I.o⟩
     case measure=>simp[intOf];omega
  ·obtain rfl:j=l.length:=by omega
   have bu: ¬(l.length:Int)<(l.length:Int):=by omega
   go_wp2;go_ret;exact⟨rfl,O.o.trans G.o.more⟩
theorem Zp (cs:Array Value) (c:CfR) (v:Value) (l:List A22) (w:World) (G:KL w cs.toList c) (d:SlP 14 uh w v l):
  Calls prog 5 #[θ cs,v] w λe w'=>e= .returned (μ true)/\qa w w':=by
 obtain rfl:cs= #[ι c.room,ι c.hold,ι c.wait,ι c.space,ι c.retry,ι c.most]:=Array.toList_inj.1 G;cases hc:xY c with
 | false=>
  obtain⟨H,cap,rfl,_⟩:=id d;exact Zq c _ _ _ w hc
 | true=>
  cases hl:yk l with
  | true=>exact Jr c v l w hc d hl
  | false=>exact XW c v l w hc d hl
end Go.Proofs.YtdgippmmaponfaaGreat
