/- Contracts and plain laws. -/
import Derived.Test.YtlmllmonabafjaaGreatDoorMg4
import Derived.Maps.RangeRun
import Derived.ChangeMaps5
import Derived.Maps.OwnSet
namespace Go.Proofs.YtlmllmonabafjaaGreatDoor
open Go.Value renaming bool->μ,slice->δ,pointer->π,agg->θ
open Go.IntKind renaming i64->ι,u8->υ,u16->φ,u32->ω,i32->χ,u64->ψ
open _root_.Go.Proofs.Tryz
set_option linter.unusedSimpArgs false
set_option maxHeartbeats 8000000
set_option linter.unusedVariables false
open Go.RowKit Go.Lib
set_option maxRecDepth 100000
theorem BY {w w10 G:World} {R:Nat} {b:Jb} {h:Hd} {H:Option Addr} {cap:Nat} {v':Value} (J:xX w10 R (δ H b.holds.length cap) b) (U:qa w w10) (ac:R<w.heap.size)
  (I:qg (λk=>(δ H b.holds.length cap).ownBlock=some k) w10 G) (O:zY G (R+1) v' (uk b.holds h)) (ab:v'.ownBlock=(δ H b.holds.length cap).ownBlock∨ ∃g,v'.ownBlock=some g/\w.heap.size<=g):
  km w (G.setCell ⟨R,2,none⟩ v') R (δ H b.holds.length cap) v' {b with holds:=uk b.holds h}:=by
 have Y:(δ H b.holds.length cap).ownBlock≠some R:=λe=>by have:=(J.row.own_ge e).1;omega
 have aa:v'.ownBlock≠some R:=λe=>by have:=(O.own_ge e).1;omega
 have N:qg (λk=>k=R) G (G.setCell ⟨R,2,none⟩ v'):=(qg.refl (λk=>k=R) G).set (p:=⟨R,2,none⟩) rfl v';refine⟨⟨qA (qo (I.blk J.blk Y) 2 v') rfl,O.away N (λk d x=>aa (by rw[<-x];exact d))⟩, ?_,ab⟩;exact qg.old U ((I.mono λk d=>Or.inr d).trans (N.mono λk d=>Or.inl d)) λk d=>Or.inl d
theorem En (b:Jb) (ok:JOK b) (R:Nat) (v:Value) (n d x:Int) (bc:xz n) (w:World) (ab:xX w R v b):
  Calls prog 194 #[γ R,ι n,ι d,ι x] w λbC w'=>bC= .returned (ι (jF b n d x).2)/\ ∃v',km w w' R v v' (jF b n d x).1:=by
 have bp:Hid (b.room<=b.holds.length∨b.holds.length<=8):=κ (by have:=ok.fits;have:=ok.room;omega);have bF:=uW bc;have bG:=uW ok.hi;obtain⟨bR,bS⟩:=ok.hi;obtain⟨bV,bW⟩:=bc;have bu:=κ ok.bits;have ac:=κ (ab.on (qa.alloc w (.cells #[ι n] 2)));have aM:=qk w (.cells #[ι n] 2);have aT:=κ aM;have ax:=uC b R v _ ac.o ok.hi;have aS:=κ (qa.alloc w (.cells #[ι n] 2));have am: ∀args w,(callFunc 246 args).run prog w= .ok (.enter 246 args) w:=λargs w=>by kernel_rfl
 have bn: ∀args w,(callFunc 247 args).run prog w= .ok (.enter 247 args) w:=λargs w=>by kernel_rfl
 have ao:Hid (ZG 246 #[γ w.heap.size] (λk=>k.1==n) b.holds (w.alloc (.cells #[ι n] 2))):=κ λW' y _ m=>DF n _ y W' (qc m aM)
 obtain⟨_,_,c2,_,_,_⟩:=ac.o.cells ⟨_,qa.refl _⟩;have bQ:w.heap.size≠R:=λe=>by have:=lt_of_block ab.blk;omega
 obtain⟨G,cap,rfl,bU⟩:=ab.row.shape;obtain⟨bl,aK⟩:=ν (JV b n);obtain⟨Y,aH⟩:=ν (b.begun);rw[aH] at ax;obtain⟨bj,aJ⟩:=ν ((if Y=true then b.hi+1 else 0));rw[aJ] at ax;have bt:=κ ax;have bs:=κ aJ;have an:=κ aH;obtain⟨bg,ba⟩:=ν (yn b.hi b.bits n);have ag:=κ ba;clear ax aJ ba;have aR:Hid ((b.holds.any λk=>k.1==n)=bl):=κ aK;have ai:=κ aK;have br:Hid ((δ G b.holds.length cap).ownBlock≠some w.heap.size):=κ (λe=>by have:=(ab.row.own_ge e).2;omega);have aQ:=κ (lt_of_block ab.blk);have aA:Hid (∀(e:Int) (aC:World),jF b n d x=(b,e)->xX aC R (δ G b.holds.length cap) b->qa w aC->(Ending.returned (ι e)= .returned (ι (jF b n d x).2)/\ ∃v',km w aC R (δ G b.holds.length cap) v' (jF b n d x).1)):=κ (λe aC aa ak bD=>by rw[aa];exact⟨rfl,_,km.keep bD ak⟩);clear ab aM aH aK
 go_enter func194,ntmps194
 go_upto_block 0 with (go_at_call 172;(go_call bt.o as bP w1 ⟨rfl,rfl⟩))
 go_cut [] from 21 to 82 (λN=>xX N R (δ G b.holds.length cap) b/\N.heap[w.heap.size]? =some (.cells #[ι n] 2)/\qa w N/\jF b n d x=({b with holds:=uk b.holds (n,d,x)},0)/\ ¬b.room<=b.holds.length)
 case first=>
  cases bl
  ·go_upto_region 5 with (go_at_call 173;(go_call xr _ _ (λk=>k.1==n) am b.holds _ (R+1) _ ac.o.row ao.o as aG w2 ⟨rfl,J⟩;rw[aR.o];have O:=κ (ac.o.on J);have au:=κ (qc J aT.o);have aq:=κ (aS.o.trans J);clear J))
   clear ao c2 am;have bA:=λ(x:qp w2)=>β0 (qc x.h au.o)
   have c4: ∀x:qp w2,x.w'.cell? ⟨R,4,none⟩=some (ι b.hi):=λx=>(O.o.cells x).2.2.2.2.1
   have c5: ∀x:qp w2,x.w'.cell? ⟨R,5,none⟩=some (ψ b.bits):=λx=>(O.o.cells x).2.2.2.2.2
   have aN:Hid (∀W:World,Calls prog 248 #[θ #[ι b.hi,ψ b.bits],ι n] W λe w'=>e= .returned (μ bg)/\qa W w'):=κ λW=>by rw[<-ag.o];exact Ht b.hi b.bits n bG bF bu.o W
   obtain⟨q,be⟩:=ν ((Y&&bg));have ah:=κ be;clear be
   go_cut [21] from 28 to 82 (λv N=>v= μ q/\qa w2 N)
   case first=>
    cases Y
    all_goals
     refine qz w2 (qa.refl _) ξ ξ ?_
     repeat (go_big_quiet_step ((go_at_call 248;with_reducible exact jY (aN.o _))))
     refine wpQuiet_nil ?_;intro _ aL;obtain⟨bm,rfl⟩:=aL;have aj:=κ bm.h;generalize bm.w'=w5 at *;go_wp2;go_meet;exact⟨by rw[<-ah.o];simp,aj.o⟩
   case rest=>
   obtain⟨rfl,aw⟩:=hcut;have af:=κ (O.o.on aw);have aU:=κ (qc aw au.o);have aj:=κ (aq.o.trans aw);clear aw bA c4 c5 O au aq aN;cases q
   ·have bB:=β0 aU.o;obtain⟨aB,bf⟩:=ν ((Y&&decide (n<bj)));have ap:=κ bf;clear bf;have aE:Hid ((Y&&decide (n<b.hi+1))=aB):=κ (by rw[<-ap.o,<-bs.o];cases Y<;>simp)
    go_upto_region 7 with fail
    go_cut [37] from 38 to 82 (λv N=>v= μ aB/\wc=N)
    case first=>
     cases Y
     ·go_wp2;go_meet;exact⟨by rw[<-ap.o];rfl,rfl⟩
     ·by_cases hl:n<bj
      ·go_wp2;go_meet;exact⟨by rw[<-ap.o];simp[hl],rfl⟩
      ·go_wp2;go_meet;exact⟨by rw[<-ap.o];simp[hl],rfl⟩
    case rest=>
    obtain⟨rfl,rfl⟩:=hcut;cases aB
    ·go_upto_region 9 with fail
     have bz: ∀x:qp wc,x.w'.cell? ⟨R,0,none⟩=some (ι b.room):=λx=>(af.o.cells x).1
     have c2: ∀x:qp wc,x.w'.cell? ⟨R,2,none⟩=some (δ G b.holds.length cap):=λx=>(af.o.cells x).2.2.1
     by_cases hf:b.room<=b.holds.length
     all_goals
      refine qz wc (qa.refl _) ξ ξ ?_
      repeat (go_big_quiet_step (fail))
      refine wpQuiet_nil ?_;intro _ aL;obtain⟨aD,rfl⟩:=aL;have ad:=κ (af.o.on aD.h);have av:=κ (qc aD.h aU.o);have ar:=κ (aj.o.trans aD.h);clear bz c2 bB;generalize aD.w'=w9 at *
     ·have I:=κ (show jF b n d x=(b,8) by unfold jF;rw[ai.o,an.o,ag.o,ah.o,aE.o,if_neg ζ,if_neg ζ,if_pos hf]);go_wp2;go_ret;exact aA.o _ _ I.o ad.o ar.o
     ·go_wp2;go_meet;exact⟨ad.o,av.o,ar.o,by unfold jF;rw[ai.o,an.o,ag.o,ah.o,aE.o,if_neg ζ,if_neg ζ,if_neg τ],τ⟩
    ·have I:=κ (show jF b n d x=(b,9) by unfold jF;rw[ai.o,an.o,ag.o,ah.o,aE.o];rfl);go_wp2;go_ret;exact aA.o _ _ I.o af.o aj.o
   ·have I:=κ (show jF b n d x=(b,10) by unfold jF;rw[ai.o,an.o,ag.o,ah.o];rfl);go_wp2;go_ret;exact aA.o _ _ I.o af.o aj.o
  ·have I:=κ (show jF b n d x=(b,10) by unfold jF;rw[ai.o];rfl)
   go_wp2_with (go_at_call 173;(go_call xr _ _ (λk=>k.1==n) am b.holds _ (R+1) _ ac.o.row ao.o as aG w2 ⟨rfl,J⟩;rw[aR.o];have O:=κ (ac.o.on J);have au:=κ (qc J aT.o);have aq:=κ (aS.o.trans J);clear J))
   go_ret;exact aA.o _ _ I.o O.o aq.o
 case rest=>
 obtain⟨aY,bi,bh,aZ,bE⟩:=hcut;have ad:=κ aY;have av:=κ bi;have ar:=κ bh;have I:=κ aZ;have bq:Hid (b.holds.length<=8):=κ (bp.o.resolve_left τ);obtain⟨_,_,aG,_,_,_⟩:=ad.o.cells ⟨_,qa.refl _⟩;have bo:Hid (ZG 247 #[γ w.heap.size] (λk=>decide (n<k.1)) b.holds wc):=κ λW' y _ m=>WB n _ y W' (qc m av.o)
 clear aY bi bh aZ bE c2 ao am;have aO:=κ (wL _ _ (λk=>decide (n<k.1)) bn b.holds _ (R+1) _ ad.o.row bo.o);obtain⟨bI,aI⟩:=ν (Js (λk=>decide (n<k.1)) b.holds);rw[aI] at aO;have aP:=κ aI;clear aI
 go_upto_region 12 with (go_at_call 231;(go_call aO.o as aX w10 ⟨rfl,ay⟩;have U:=κ (ad.o.on ay);have bv:=κ (qc ay av.o);have aF:=κ (ar.o.trans ay);obtain⟨_,_,aX,_,_,_⟩:=U.o.cells ⟨_,qa.refl _⟩;clear ay aG))
 obtain⟨bX,bb⟩:=ν (decide (bI<0));have bN:=κ bb;clear bb
 go_upto_if 62 with fail
 go_cut [13] from 63 to 82 (λv N=>v= ι (atJ b.holds n:Int)/\w10=N)
 case first=>
  rcases F6 b.holds n with ⟨aa,ak⟩ | ⟨aa,ak⟩
  ·rw[aP.o] at aa;subst aa;have bT: ¬((atJ b.holds n:Nat):Int)<0:=by omega
   go_wp2;go_meet;exact⟨rfl,rfl⟩
  ·rw[aP.o] at aa;subst aa;have O:=κ ak;clear ak;go_wp2;go_meet;exact⟨by rw[O.o],rfl⟩
 case rest=>
 obtain⟨rfl,rfl⟩:=hcut
 go_upto_region 14 with fail
 have bd:(δ G b.holds.length cap).ownBlock≠some R:=λe=>by have:=(U.o.row.own_ge e).1;omega
 have bH:(δ G b.holds.length cap).ownBlock≠some w.heap.size:=br.o;have c2:=λ(x:qu (λk=>(δ G b.holds.length cap).ownBlock=some k) w10)=>β2 (x.h.blk U.o.blk bd)
 have c5:=λ(x:qu (λk=>(δ G b.holds.length cap).ownBlock=some k) w10)=>β0 (x.h.blk bv.o bH)
 clear aX;refine QN (λk=>(δ G b.holds.length cap).ownBlock=some k) w10 14 15 [10,11,12,14] ?_
 refine ED ?_
 (refine Ql ?_;intro K H)
 have az:qa w10 ((w10.drewN 1).alloc (.cells #[ι n,ι d,ι x] 338)):=(qa.drewN w10 1).al _;have aV:qg (λk=>(δ G b.holds.length cap).ownBlock=some k) w10 ((w10.drewN 1).alloc (.cells #[ι n,ι d,ι x] 338)):=qg.of_more az;refine⟨qi aV,H _ _ ?_⟩;clear H K
 (refine Ql ?_;intro K H)
 have bw:Vn b.holds (n,d,x) (δ G b.holds.length cap) (R+1) ((w10.drewN 1).alloc (.cells #[ι n,ι d,ι x] 338)) w10.heap.size:=⟨U.o.row.more az,by have:=aF.o.size;have:=az.size;have:=aQ.o;omega,by have:=bq.o;omega,qB (w:=w10.drewN 1) rfl,λe=>by have:=(U.o.row.own_ge e).2;omega⟩;refine(Ww b.holds (atJ b.holds n) (Ug _ _) (n,d,x) _ (R+1) _ _ bw).mono ?_;rintro e bM ⟨v',rfl,bL,bx,bJ⟩;have ae:=aV.trans bx;have bk:zY bM (R+1) v' (uk b.holds (n,d,x)):=by
  unfold uk;exact bL
 have bK:v'.ownBlock=(δ G b.holds.length cap).ownBlock∨ ∃g,v'.ownBlock=some g/\w.heap.size<=g:=bJ.elim Or.inl λh=>Or.inr ⟨_,h,by have:=aF.o.size;have:=az.size;omega⟩
 obtain⟨bY,bO,rfl,_⟩:=bk.shape;refine⟨_,rfl,qi ae,H _ _ ?_⟩;clear H K
 (refine Ql ?_;intro K H)
 refine⟨qi ae,H _ _ ?_⟩;clear H K
 iterate 1 (refine qD rfl rfl (qi ae) ?_;intro K H;go_big_quiet_op;go_big_quiet_on)
 have aW:=ae.blk U.o.blk bd;have aB:=qb aW 2 rfl;have bZ:=qd aW 2
 (refine Qe ?_;intro K H)
 refine H _ _ ?_;clear H K;refine qv ?_;go_wp2;go_ret;exact⟨by rw[I.o];rfl,_,by rw[I.o];exact BY U.o aF.o aQ.o ae bk bK⟩
theorem VW (L:List Hd) (h:Hd):(uk L h).length=L.length+1:=by
 unfold uk;have:=Ug L h.1;rw[List.length_append,List.length_cons,List.length_take,List.length_drop];omega
theorem gW (L:List Hd) (h k:Hd):k∈uk L h↔k=h∨k∈L:=by
 unfold uk;rw[List.mem_append,List.mem_cons]
 conv=>rhs;rw[<-List.take_append_drop (atJ L h.1) L,List.mem_append]
 constructor
 ·rintro(a | a | a)
  ·exact Or.inr (Or.inl a)
  ·exact Or.inl a
  ·exact Or.inr (Or.inr a)
 ·rintro(a | a | a)
  ·exact Or.inr (Or.inl a)
  ·exact Or.inl a
  ·exact Or.inr (Or.inr a)
theorem Dc (k:Hd) (L:List Hd) (h:Hd):uk (k::L) h=if h.1<k.1 then h::k::L else k::uk L h:=by
 unfold uk atJ;rw[List.findIdx_cons];by_cases e:h.1<k.1
 ·simp[e]
 ·simp[e]
theorem Z4: ∀(L:List Hd) (h:Hd),(L.Pairwise λa c=>a.1<c.1)->(∀k∈L,¬k.1=h.1)->(uk L h).Pairwise λa c=>a.1<c.1
 | [],h,_,_=>by simp[uk,atJ]
 | k::L,h,hp,hn=>by
  rw[List.pairwise_cons] at hp;rw[Dc];by_cases e:h.1<k.1
  ·rw[if_pos e,List.pairwise_cons,List.pairwise_cons];refine⟨λc d=> ?_,hp.1,hp.2⟩;rcases List.mem_cons.1 d with rfl | d
   ·exact e
   ·exact Int.lt_trans e (hp.1 c d)
  ·rw[if_neg e,List.pairwise_cons];have:=hn k List.mem_cons_self;refine⟨λc d=> ?_,Z4 L h hp.2 λc d=>hn c (List.mem_cons_of_mem _ d)⟩;rcases(gW L h c).1 d with rfl | d
   ·omega
   ·exact hp.1 c d
theorem Pf (b:Jb) (n:Int):JV b n=false↔ ∀k∈b.holds,¬k.1=n:=by
 unfold JV;rw[List.any_eq_false];constructor
 ·intro h k d e;exact h k d (by simpa using e)
 ·intro h k d e;exact h k d (by simpa using e)
theorem UI (b:Jb) (n d x:Int):((jF b n d x).1=b/\(jF b n d x).2≠0)∨
  (jF b n d x=({b with holds:=uk b.holds (n,d,x)},0)/\JV b n=false/\(b.begun=true->b.hi<n)/\(b.holds.length:Int)<b.room):=by
 unfold jF;by_cases h1:(JV b n||(b.begun&&yn b.hi b.bits n))=true
 ·rw[if_pos h1];exact Or.inl ⟨rfl,show (10:Int)≠0 by decide⟩
 ·rw[if_neg h1];by_cases h2:(b.begun&&decide (n<b.hi+1))=true
  ·rw[if_pos h2];exact Or.inl ⟨rfl,show (9:Int)≠0 by decide⟩
  ·rw[if_neg h2];by_cases h3:b.room<=b.holds.length
   ·rw[if_pos h3];exact Or.inl ⟨rfl,show (8:Int)≠0 by decide⟩
   ·rw[if_neg h3];refine Or.inr ⟨rfl, ?_, ?_,τ⟩
    ·cases hs:JV b n with
     | false=>rfl
     | true=>rw[hs] at h1;simp at h1
    ·intro G;rw[G] at h2;simp at h2;omega
theorem Fk {b:Jb} (d:JOK b) {n H x:Int} (O:xz n) (U:xz H):JOK (jF b n H x).1:=by
 rcases UI b n H x with ⟨h,_⟩ | ⟨h,J,N,Y⟩
 ·rw[h];exact d
 ·rw[h];refine⟨d.room,d.wait, ?_,λk G=> ?_,Z4 _ _ d.rise ((Pf b n).1 J),d.hi,d.bits,λI k G=> ?_⟩
  ·show ((uk b.holds (n,H,x)).length:Int)<=b.room;rw[VW];omega
  ·rcases(gW _ _ k).1 G with rfl | G
   ·exact⟨O,U⟩
   ·exact d.nums k G
  ·rcases(gW _ _ k).1 G with rfl | G
   ·exact N I
   ·exact d.over I k G
theorem VT {b:Jb} (d:JOK b) {h:Hd} {T:List Hd} (G:b.holds=h::T):JOK (jW b):=by
 have O:=d.nums h (by rw[G];exact List.mem_cons_self);have I:=d.rise;rw[G,List.pairwise_cons] at I;have e:jW b={b with holds:=T,begun:=true,hi:=(wM b h.1).1,bits:=(wM b h.1).2}:=by unfold jW;rw[G]
 have J:(wM b h.1).1=h.1:=by
  unfold wM;split
  ·rename_i N;rw[QL];have:=d.over N h (by rw[G];exact List.mem_cons_self);omega
  ·rfl
 rw[e];refine⟨d.room,d.wait, ?_,λk H=>d.nums k (by rw[G];exact List.mem_cons_of_mem _ H),I.2, ?_, ?_,λ_ k H=> ?_⟩
 ·have:=d.fits;rw[G,List.length_cons] at this;show ((T.length:Nat):Int)<=b.room;omega
 ·show xz (wM b h.1).1;rw[J];exact O.1
 ·show U64 (wM b h.1).2;unfold wM;split
  ·exact VO _ _ _ d.bits
  ·exact(show U64 1 from ⟨ζ,ζ⟩)
 ·show (wM b h.1).1<k.1;rw[J];exact I.1 k H
def zV (b:Jb) (now:Int):Jb×Int×Int×Bool:=match b.holds with
 | []=>(b,0,0,false)
 | h::_=>if jN b now then (jW b,h.1,h.2.2,true) else (b,0,0,false)
theorem Hg (b:Jb) (af:JOK b) (R:Nat) (v:Value) (d:Int) (ak:xz d) (w:World) (N:xX w R v b):
  Calls prog 133 #[γ R,ι d] w λe w'=>e= .returned (.tuple #[ι (zV b d).2.1,ι (zV b d).2.2.1,μ (zV b d).2.2.2])/\ ∃v',km w w' R v v' (zV b d).1:=by
 have ab:=κ N;have ac:=κ (Yg b af R v d ak w N);cases hr:jN b d with
 | false=>
  have J:zV b d=(b,0,0,false):=by
   unfold zV;cases b.holds with
   | nil=>rfl
   | cons h T=>simp only[hr];rfl
  rw[J];have U:=κ hr;clear J hr N
  go_enter func133,ntmps133
  go_wp2_with (go_at_call 119;(go_call ac.o as e w1 ⟨rfl,G⟩;rw[U.o];have H:=κ G;clear G))
  refine bodyPost_ret (v:= .tuple #[ι 0,ι 0,false]) (by simp[results,results133,go_sem]) rfl ?_;exact⟨rfl,v,km.keep H.o (ab.o.on H.o)⟩
 | true=>
  obtain⟨h,T,I⟩: ∃h T,b.holds=h::T:=by
   cases I:b.holds with
   | nil=>unfold jN at hr;rw[I] at hr;cases hr
   | cons h T=>exact⟨h,T,rfl⟩
  have J:zV b d=(jW b,h.1,h.2.2,true):=by
   unfold zV;rw[I];simp only[hr];rfl
  rw[J];have U:=κ hr;have ah:=κ I;clear J hr N I
  go_enter func133,ntmps133
  go_wp2_with (first | (go_at_call 119;(go_call ac.o as e w1 ⟨rfl,G⟩;rw[U.o];have H:=κ G;have ag:=κ (ab.o.on G);clear G)) | (go_at_call 178;(go_call Yj b h T ah.o af R v _ ag.o as e w2 ⟨rfl,am,st⟩;have aa:=κ st;clear st)))
  obtain⟨W,O⟩: ∃W,W=w2.alloc (.cells #[ι h.1,ι h.2.1,ι h.2.2] 338):=⟨_,rfl⟩;have ae:W.heap[w2.heap.size]? =some (.cells #[ι h.1,ι h.2.1,ι h.2.2] 338 (0,0)):=by rw[O];exact qk w2 _
  have ad:qa w2 W:=by rw[O];exact qa.alloc w2 _
  have Y:=λ(x:qp W)=>qc x.h ae
  have ao:=λx=>β0 (Y x);have c2:=λx=>β2 (Y x);clear Y
  have ai:=κ ad;rw[<-O];clear O ae ad;generalize w2.heap.size=BX at *;refine qz W (qa.refl _) ξ ξ ?_
  repeat (go_big_quiet_step (fail))
  refine wpQuiet_nil ?_;intro _ al;obtain⟨an,rfl⟩:=al;go_wp2;refine bodyPost_ret (v:= .tuple #[ι h.1,ι h.2.2,true]) (by simp[results,results133,go_sem]) rfl ?_;have m:=ai.o.trans an.h;refine⟨rfl,am,aa.o.buf.on m, ?_, ?_⟩
  ·exact qg.old H.o (aa.o.away.more m) λk aj=>Or.inl aj
  ·exact aa.o.own.elim Or.inl λ⟨g,a,c⟩=>Or.inr ⟨g,a,Nat.le_trans H.o.size c⟩
def wA (room wait:Int):Prop:=1<=room/\room<=8/\0<=wait/\wait<=1000
instance (r w:Int):Decidable (wA r w):=by unfold wA;infer_instance
def Ez (room wait:Int):Jb:=⟨room,wait,[],false,0,0⟩
theorem Fu {room d:Int} (h:wA room d):JOK (Ez room d):=
 ⟨⟨h.1,h.2.1⟩,⟨h.2.2.1,h.2.2.2⟩,(by show ((0:Nat):Int)<=room;have:=h.1;omega),λk G=>(by cases G),List.Pairwise.nil,(show xz 0 from ⟨ζ,ζ⟩),(show U64 0 from ⟨ζ,ζ⟩),λe=>(by cases e)⟩
theorem LS (room d:Int) (w:World) (h: ¬wA room d):
  Calls prog 41 #[ι room,ι d] w λe w'=>e= .returned (.tuple #[π none,ι 1])/\w=w':=by
 by_cases h1:room<1
 ·clear h
  go_enter func41,ntmps41
  go_wp2
  go_ret2
  exact⟨rfl,rfl⟩
 ·by_cases h2:8<room
  ·clear h
   go_enter func41,ntmps41
   go_wp2
   go_ret2
   exact⟨rfl,rfl⟩
  ·by_cases h3:d<0
   ·clear h
    go_enter func41,ntmps41
    go_wp2
    go_ret2
    exact⟨rfl,rfl⟩
   ·have G:1000<d:=by unfold wA at h;omega
    clear h
    go_enter func41,ntmps41
    go_wp2
    go_ret2
    exact⟨rfl,rfl⟩
theorem YV (room d:Int) (w:World) (h:wA room d):
  Calls prog 41 #[ι room,ι d] w λe w'=>e= .returned (.tuple #[γ w.heap.size,ι 0])/\xX w' w.heap.size (δ none 0 0) (Ez room d)/\qa w w'/\w.heap.size<w'.heap.size:=by
 obtain⟨G,H,I,J⟩:=h;have N: ¬room<1:=by omega
 have O: ¬8<room:=by omega
 have U: ¬d<0:=by omega
 have Y: ¬1000<d:=by omega
 clear G H I J
 go_enter func41,ntmps41
 go_wp2
 go_ret2
 exact⟨rfl,⟨qk w _,World.ownsRow_nil _ _ _ _⟩,qa.alloc w _,η⟩
theorem UT {w w':World} {base e size n:Nat} {v:Value} {xs:List Value} {S:Nat->Prop} (h:w.ownsRow base e size v n xs) (a:qg S w w') (H: ∀k,v.ownBlock=some k-> ¬S k):w'.ownsRow base e size v n xs:=by
 obtain⟨d,G⟩:=h;refine⟨d, ?_⟩;rcases G with h | ⟨g,cap,cur,e1,hb,hg,rest⟩
 ·exact Or.inl h
 ·exact Or.inr ⟨g,cap,cur,e1,hb,a.blk hg (H g (by rw[e1];rfl)),rest⟩
structure DrJ (w0 wr:World) (R:Nat) (v0 v:Value) (b:Jb) (v3:Value) (A:List Int):Prop where
 buf:xX wr R v b
 ok:JOK b
 row:wr.ownsRow w0.heap.size 3 1 v3 A.length (A.map (Value.int .i64))
 away:qg (λk=>k=R∨v0.ownBlock=some k) w0 wr
 own:v.ownBlock=v0.ownBlock∨ ∃g,v.ownBlock=some g/\w0.heap.size<=g
 sep: ∀k,v3.ownBlock=some k->v.ownBlock≠some k
theorem DrJ.step {H wr w':World} {R:Nat} {v0 v v3 v':Value} {b:Jb} {A:List Int} {h:Hd} {T:List Hd} (G:DrJ H wr R v0 v b v3 A) (O:R<H.heap.size) (J:b.holds=h::T) (st:km wr w' R v v' (jW b)):DrJ H w' R v0 v' (jW b) v3 A:=by
 have N: ∀k,v3.ownBlock=some k->H.heap.size<=k/\k<wr.heap.size:=λk d=>by
  rcases G.row.2 with ⟨rfl,_⟩ | ⟨g,cap,cur,rfl,J,I,_⟩
  ·cases d
  ·obtain rfl:g=k:=by injection d
   exact⟨J,lt_of_block I⟩
 refine⟨st.buf,VT G.ok J,UT G.row st.away λk d x=> ?_, ?_, ?_,λk d e=> ?_⟩
 ·rcases x with x | x
  ·have:=(N k d).1;omega
  ·exact G.sep k d x
 ·have a:qg (λk=>(k=R∨v0.ownBlock=some k)∨H.heap.size<=k) H w':=(G.away.mono λk d=>Or.inl d).trans (st.away.mono λk d=>by
   rcases d with d | d
   ·exact Or.inl (Or.inl d)
   ·rcases G.own with e | ⟨g,e,I⟩
    ·exact Or.inl (Or.inr (by rw[<-e];exact d))
    ·rw[e] at d;injection d with d
     exact Or.inr τ)
  exact qg.old (qa.refl H) a λk d=>d
 ·rcases st.own with e | ⟨g,e,I⟩
  ·rw[e];exact G.own
  ·exact Or.inr ⟨g,e,Nat.le_trans G.away.size I⟩
 ·rcases st.own with e2 | ⟨g,e2,I⟩
  ·rw[e2] at e;exact G.sep k d e
  ·rw[e2] at e;injection e with e
   have:=(N k d).2;omega
theorem DrJ.on {G wr w':World} {R:Nat} {v0 v v3:Value} {b:Jb} {A:List Int} (d:DrJ G wr R v0 v b v3 A) (m:qa wr w'):DrJ G w' R v0 v b v3 A:=
 ⟨d.buf.on m,d.ok,jy d.row m,d.away.more m,d.own,d.sep⟩
theorem DrJ.put {H wr w':World} {R:Nat} {v0 v v3 J:Value} {b:Jb} {A A':List Int} (G:DrJ H wr R v0 v b v3 A) (ac:R<H.heap.size) (Y:w'.ownsRow H.heap.size 3 1 J A'.length (A'.map (Value.int .i64))) (I:wr.grownBy w' v3.ownBlock) (aa:J.ownBlock=v3.ownBlock∨J.ownBlock=some wr.heap.size):DrJ H w' R v0 v b J A':=by
 have N: ∀k,v3.ownBlock=some k->H.heap.size<=k:=λk d=>by
  rcases G.row.2 with ⟨rfl,_⟩ | ⟨g,cap,cur,rfl,U,I,_⟩
  ·cases d
  ·obtain rfl:g=k:=by injection d
   exact U
 have a:qg (λk=>v3.ownBlock=some k) wr w':=⟨I.os,I.tape,I.output,I.size,λk d ab=>I.block k d (λe=>ab e.symm)⟩;refine⟨⟨a.blk G.buf.blk λx=>by have:=N R x;omega,G.buf.row.away a λk d x=>G.sep k x d⟩,G.ok,Y, ?_,G.own,λk d e=> ?_⟩
 ·have O:qg (λk=>(k=R∨v0.ownBlock=some k)∨H.heap.size<=k) H w':=(G.away.mono λk d=>Or.inl d).trans (a.mono λk d=>Or.inr (N k d));exact qg.old (qa.refl H) O λk d=>d
 ·rcases aa with e2 | e2
  ·rw[e2] at d;exact G.sep k d e
  ·rw[e2] at d;injection d with d
   have:=(G.buf.row.own_ge e).2;omega
def Ma:Value->Nat
 | .slice _ n _=>n
 | _=>0
theorem XD {w:World} {base e size n:Nat} {v:Value} {xs:List Value} (h:w.ownsRow base e size v n xs): ∃oa cap,v= δ oa n cap:=by
 rcases h.2 with ⟨rfl,d⟩ | ⟨g,cap,cur,rfl,_⟩
 ·exact⟨none,0,by rw[d]⟩
 ·exact⟨_,cap,rfl⟩
def Qx:Nat->Jb->Jb
 | 0,b=>b
 | n+1,b=>Qx n (jW b)
def vV (b:Jb):Jb:=Qx b.holds.length b
def thJ (L:List Hd):List Int:=L.map λh=>h.2.2
theorem Wz (b:Jb) (ok:JOK b) (R:Nat) (v:Value) (w:World) (N:xX w R v b):
  Calls prog 125 #[γ R] w λe w'=> ∃vx,e= .returned vx/\ ∃v',DrJ w w' R v v' (vV b) vx (thJ b.holds)/\(vV b).holds=[]:=by
 have ac:=lt_of_block N.blk;obtain⟨aq,hi,an,ao,ap⟩:=info_parts (P:=prog) (e:=3) (z:= ι 0) (size:=1) (bytes:=8) ξ;have ak:Hid (b.holds.length<=8):=κ (by have:=ok.fits;have:=ok.room;omega);have ah:Hid (DrJ w w R v v b (δ none 0 0) []):=κ ⟨N,ok,World.ownsRow_nil _ _ _ _,qg.refl _ _,Or.inl rfl,λk am=>by cases am⟩;clear N
 go_enter func125,ntmps125
 go_wp2
 go_loopw [3] (λv3 wr=> ∃v' d A,DrJ w wr R v v' d v3 A/\A++thJ d.holds=thJ b.holds/\Qx d.holds.length d=vV b) (λv3 _=>b.holds.length-Ma v3)
 case atStart=>exact⟨v,b,[],ah.o,rfl,rfl⟩
 case round=>
  obtain⟨v',d,A,H,O,ae⟩:=hrel;have aa:=κ ae;clear ae;have I:=κ H;have Y:=κ O;obtain⟨_,_,c2,_,_,_⟩:=H.buf.cells ⟨wr,qa.refl _⟩;obtain⟨aA,cap,rfl,aw⟩:=H.buf.row.shape;obtain⟨ay,c3,rfl⟩:=XD H.row;have ar:A.length+d.holds.length=b.holds.length:=by
   have:=congrArg List.length O;unfold thJ at this;rw[List.length_append,List.length_map,List.length_map] at this;exact this
  have ab:=κ ar;clear H O;cases hb:d.holds with
  | nil=>
   have G:=κ hb;rw[hb,List.length_nil] at c2;clear hb;have aj:Hid (A=thJ b.holds):=κ (by have:=Y.o;rw[G.o] at this;simpa [thJ] using this);go_wp2;go_ret;have ad:d=vV b:=by have:=aa.o;rw[G.o] at this;exact this
   exact⟨_,rfl,⟨_,by rw[<-aj.o,<-ad];exact I.o⟩,by rw[<-ad];exact G.o⟩
  | cons h T=>
   have G:=κ hb;have ax:(0:Int)<(d.holds.length:Int):=by rw[hb];simp
   clear hb;have al:=κ (Yj d h T G.o I.o.ok R _ wr I.o.buf);have av: ∀w2,(Instr.field 338 (θ #[ι h.1,ι h.2.1,ι h.2.2]) 2).run prog w2= .ok (ι h.2.2) w2:=λw2=>by kernel_rfl
   go_wp2_with (first | (go_at_call 178;(go_call al.o as e w2 ⟨rfl,au,st⟩;have J:=κ (I.o.step ac G.o st);clear st c2)) | (at_builtin;refine qK _ rfl (.tmp 10) (.tmp 14) 107 rfl w.heap.size 3 aq (ι 0) 8 underlying107 hi an ao ap rfl _ .i64 A rfl (J.o.on (qa.alloc _ _)).row _ [h.2.2] rfl (SlI.lit .i64 w2 [h.2.2] 3 _ 1 _ rfl rfl rfl η) (by have:=ak.o;have:=ab.o;simp only[List.length_cons,List.length_nil];omega) ζ (by have:=J.o.away.size;simp;omega) ?_;intro v5 w5 U af ag;have ai:=κ ((J.o.on (qa.alloc _ _)).put ac U af ag);obtain⟨az,c5,rfl⟩:=XD U;clear U af ag))
   go_roundw
   case rel=>exact⟨au,jW d,A++[h.2.2],(by have:=ai.o;rw[List.length_append] at this;exact this),by rw[show (jW d).holds=T by unfold jW;rw[G.o]];have:=Y.o;rw[G.o] at this;rw[<-this];simp[thJ],by rw[show (jW d).holds=T by unfold jW;rw[G.o]];have:=aa.o;rw[G.o] at this;exact this⟩
   case measure=>have:=ab.o;rw[G.o] at this;simp[Ma] at *;omega
section
open Go.RowKit Go.ChangeMaps
section
variable {K V:Type} [DecidableEq K] {P:Program}
def yy (k:K):List (K×V)->Nat->Option (Nat×V)
 | [],_=>none
 | (a,v)::l,i=>if k=a then some (i,v) else yy k l (i+1)
def qh:List (K×V)->K->Option V
 | [],_=>none
 | (a,v)::l,k=>if k=a then some v else qh l k
def qw:List (K×V)->K->V->List (K×V)
 | [],k,v=>[(k,v)]
 | (a,b)::l,k,v=>if k=a then (k,v)::l else (a,b)::qw l k v
def yK:List (K×V)->K->List (K×V)
 | [],_=>[]
 | (a,b)::l,k=>if k=a then l else (a,b)::yK l k
theorem kW {k:K} {v:V}: ∀{L:List (K×V)} {i j:Nat},yy k L j=some (i,v)->j<=i/\L[i-j]? =some (k,v)/\qh L k=some v/\yK L k=L.eraseIdx (i-j)/\ ∀u,qw L k u=L.set (i-j) (k,u)
 | [],_,_,h=>by simp[yy] at h
 | (a,b)::l,i,j,h=>by
  unfold yy at h;by_cases e:k=a
  ·rw[if_pos e] at h;cases h;subst e;simp[qh,yK,qw]
  ·rw[if_neg e] at h;obtain⟨N,G,H,I,J⟩:=kW h;have d:i-j=(i-(j+1))+1:=by omega
   refine⟨τ,by rw[d];simpa using G,by simp[qh,e,H],by rw[d];simp[yK,e,I],λu=>by rw[d];simp[qw,e,J]⟩
theorem kX {k:K}: ∀{L:List (K×V)} {j:Nat},yy k L j=none->qh L k=none/\yK L k=L/\k∉L.map Prod.fst/\ ∀u,qw L k u=L++[(k,u)]
 | [],_,_=>by simp[qh,yK,qw]
 | (a,b)::l,j,h=>by
  unfold yy at h;by_cases e:k=a
  ·rw[if_pos e] at h;cases h
  ·rw[if_neg e] at h;obtain⟨G,H,d,I⟩:=kX h;refine⟨by simp[qh,e,G],by simp[yK,e,H],by simp[e] at d ⊢;exact d,λu=>by simp[qw,e,I]⟩
theorem PQ (k:K) (L:List (K×V)) (j:Nat):(yy k L j).map (·.2)=qh L k:=by
 cases h:yy k L j with
 | none=>simp[(kX h).1]
 | some x=>obtain⟨i,v⟩:=x;simp[(kW h).2.2.1]
structure yA (P:Program) (kt:TypeId) (ke:K->Value):Prop where
 look: ∀(V:Type) (ve:V->Value) (k:K) (L:List (K×V)) (es:List MapEntry) (w:World),es.map (λe=>(e.key,e.val))=L.map (λp=>(ke p.1,ve p.2))->(Instr.findKey kt (ke k) es).run P w= .ok ((yy k L 0).map λx=>(x.1,ve x.2)) w
 check: ∀b k w,(Instr.checkKey b 10000 kt (ke k)).run P w= .ok () w
 same: ∀k,Instr.sameBits 10000 (ke k) (ke k)=true
theorem Jk {ke:K->Value} {G:V->Value} {d:TypeDesc} (h: ∀a b,Instr.sameNow d (ke a) (ke b)=some (decide (a=b))) (k:K): ∀(L:List (K×V)) (es:List MapEntry) (i:Nat),
  es.map (λe=>(e.key,e.val))=L.map (λp=>(ke p.1,G p.2))->Instr.findNow d (ke k) es i=some ((yy k L i).map λx=>(x.1,G x.2))
 | [],[],_,_=>rfl
 | [],_::_,_,e=>by simp at e
 | _::_,[],_,e=>by simp at e
 | (a,v)::l,x::es,i,e=>by
  simp only[List.map_cons,List.cons.injEq,Prod.mk.injEq] at e;unfold Instr.findNow yy;rw[e.1.1,h];by_cases hk:k=a
  ·simp[hk,e.1.2]
  ·simp[hk,Jk h k l es (i+1) e.2]
omit [DecidableEq K] in
theorem U6 {ke:K->Value} {G:V->Value} {d:TypeDesc} (h: ∀a b,Instr.sameNow d (ke a) (ke b)=none) (k:K): ∀(L:List (K×V)) (es:List MapEntry) (i:Nat),
  es.map (λe=>(e.key,e.val))=L.map (λp=>(ke p.1,G p.2))->Instr.findNow d (ke k) es i=if L=[] then some none else none
 | [],[],_,_=>rfl
 | [],_::_,_,e=>by simp at e
 | _::_,[],_,e=>by simp at e
 | (a,v)::l,x::es,i,e=>by
  simp only[List.map_cons,List.cons.injEq,Prod.mk.injEq] at e;unfold Instr.findNow;rw[e.1.1,h];simp
theorem uN {ke:K->Value} {G:V->Value} {d:TypeId} {w:World} (h: ∀a b,(Op.equal d (ke a) (ke b)).run P w= .ok (decide (a=b)) w) (k:K): ∀(L:List (K×V)) (es:List MapEntry) (i:Nat),
  es.map (λe=>(e.key,e.val))=L.map (λp=>(ke p.1,G p.2))->(Instr.findAsking d (ke k) es i).run P w= .ok ((yy k L i).map λx=>(x.1,G x.2)) w
 | [],[],_,_=>rfl
 | [],_::_,_,e=>by simp at e
 | _::_,[],_,e=>by simp at e
 | (a,v)::l,x::es,i,e=>by
  simp only[List.map_cons,List.cons.injEq,Prod.mk.injEq] at e;unfold Instr.findAsking yy;rw[Sem.run_bind,e.1.1,h];by_cases hk:k=a
  ·simp[hk,Result.andThen,e.1.2,Sem.run,pure]
  ·simp[hk,Result.andThen,uN h k l es (i+1) e.2]
theorem yA.of_now {d:TypeId} {ke:K->Value} {G:TypeDesc} (N:P.underlying d=some G) (h: ∀a b,Instr.sameNow G (ke a) (ke b)=some (decide (a=b)))
  (I: ∀b k w,(Instr.checkKey b 10000 d (ke k)).run P w= .ok () w) (J: ∀k,Instr.sameBits 10000 (ke k) (ke k)=true):yA P d ke:=
 ⟨λV O k L H w e=>by
  unfold Instr.findKey;rw[Sem.run_bind,run_underlying N]
  simp[Result.andThen,Jk h k L H 0 e,Sem.run,pure],I,J⟩
theorem yA.of_ask {d:TypeId} {ke:K->Value} {H:TypeDesc} (O:P.underlying d=some H) (h: ∀a b,Instr.sameNow H (ke a) (ke b)=none) (J: ∀a b w,(Op.equal d (ke a) (ke b)).run P w= .ok (decide (a=b)) w)
  (I: ∀b k w,(Instr.checkKey b 10000 d (ke k)).run P w= .ok () w) (N: ∀k,Instr.sameBits 10000 (ke k) (ke k)=true):yA P d ke:=
 ⟨λV U k L G w e=>by
  unfold Instr.findKey;rw[Sem.run_bind,run_underlying O];simp only[Result.andThen,U6 h k L G 0 e];by_cases hL:L=[]
  ·subst hL;simp[yy,Sem.run,pure]
  ·simp[hL,uN (λa b=>J a b w) k L G 0 e],I,N⟩
structure jh (w:World) (b:Nat) (ke:K->Value) (ve:V->Value) (L:List (K×V)):Prop where
 ex: ∃es clock,w.heap[b]? =some (.map es clock)/\es.toList.map (λe=>(e.key,e.val))=L.map (λp=>(ke p.1,ve p.2))/\(es.toList.map (·.born)).Nodup/\ ∀e∈es.toList,e.born<clock
 keys:(L.map Prod.fst).Nodup
variable {w:World} {b:Nat} {ke:K->Value} {ve:V->Value} {L:List (K×V)}
omit [DecidableEq K] in
theorem jh.lt (h:jh w b ke ve L):b<w.heap.size:=by obtain⟨⟨_,_,d,_⟩,_⟩:=h;exact lt_of_block d
omit [DecidableEq K] in
theorem jh.made (w:World) (ke:K->Value) (d:V->Value):jh (w.alloc (.map #[] 0)) w.heap.size ke d []:=
 ⟨⟨#[],0,qk _ _,rfl,η,η⟩,η⟩
omit [DecidableEq K] in
theorem jh.away {w':World} {S:Nat->Prop} (h:jh w b ke ve L) (m:qg S w w') (H: ¬S b):jh w' b ke ve L:=by
 obtain⟨⟨d,c,G,r⟩,k⟩:=h;exact⟨⟨d,c,m.blk G H,r⟩,k⟩
omit [DecidableEq K] in
theorem jh.more {w':World} (h:jh w b ke ve L) (m:qa w w'):jh w' b ke ve L:=h.away (qg.of_more (S:=λ_=>False) m) (λx=>x)
theorem yk {w:World} {b:Nat} {G:Array MapEntry} {c:Nat} (H:w.heap[b]? =some (.map G c)) (d:Obj):(setObj b d).run P w= .ok () (setBlock w b d):=by
 simp[setObj,Sem.run,H,setBlock]
theorem xv {w:World} {b:Nat} {d:Array MapEntry} {c:Nat} (G:w.heap[b]? =some (.map d c)):(getObj b).run P w= .ok (.map d c) w:=by
 simp[getObj,Sem.run,G]
theorem zG (w:World) (b:Nat) (o:Obj):qg (λx=>x=b) w (setBlock w b o):=
 ⟨rfl,rfl,rfl,by simp[setBlock],λk _ d=>by
  simp only[setBlock]
  rw[Array.getElem?_setIfInBounds_ne (λe=>d e.symm)]⟩
theorem zD (w:World) (b:Nat) (o:Obj):(setBlock w b o).heap.size=w.heap.size:=by simp[setBlock]
theorem jh.look {O I t:TypeId} {z:Value} (h:jh w b ke ve L) (H:yA P O ke) (N:P.underlying t=some (.map O I)) (aa:(zeroValue I).run P w= .ok z w) (k:K) (c:Bool):
  (Instr.lookup t (.map (some b)) (ke k) c).run P w= .ok (if c then .tuple #[((qh L k).map ve).getD z,μ (qh L k).isSome] else ((qh L k).map ve).getD z) w:=by
 obtain⟨⟨U,ab,J,Y,_⟩,_⟩:=h;have G:=H.look V ve k L U.toList w Y;have d:=PQ k L 0;unfold Instr.lookup;cases hq:yy k L 0 with
 | none=>
  rw[hq] at G d;simp only[Option.map_none] at G d;simp[run_underlying N,xv J,H.check,G,aa,<-d,go_sem]
 | some x=>
  rw[hq] at G d;simp only[Option.map_some] at G d;simp[run_underlying N,xv J,H.check,G,<-d,go_sem]
theorem Jy {d:List MapEntry} {i:Nat} {k v:Value}:(d.modify i λe=>{e with key:=k,val:=v}).map (λe=>(e.key,e.val))=(d.map λe=>(e.key,e.val)).set i (k,v):=by
 induction d generalizing i with
 | nil=>simp
 | cons x l ih=>
  cases i with
  | zero=>simp[List.modify_cons]
  | succ i=>simp[ih]
theorem kE {d:List MapEntry} {i:Nat} {k v:Value}:(d.modify i λe=>{e with key:=k,val:=v}).map (·.born)=d.map (·.born):=by
 induction d generalizing i with
 | nil=>simp
 | cons x l ih=>
  cases i with
  | zero=>simp[List.modify_cons]
  | succ i=>simp[ih]
omit [DecidableEq K] in
theorem XY {k:K} {u:V} {i:Nat} {v:V} (h:L[i]? =some (k,v)):((L.set i (k,u)).map Prod.fst)=L.map Prod.fst:=by
 rw[List.map_set];refine List.ext_getElem? λj=> ?_
 rw[List.getElem?_set];by_cases hj:i=j
 ·subst hj;have hi:i<L.length:=(List.getElem?_eq_some_iff.1 h).1;have e:=(List.getElem?_eq_some_iff.1 h).2;simp[hi,e]
 ·simp[hj]
theorem jh.update {aj al t:TypeId} (h:jh w b ke ve L) (J:yA P aj ke) (ai:P.underlying t=some (.map aj al)) (k:K) (u:V):
  ∃w',(Instr.mapUpdate t (.map (some b)) (ke k) (ve u)).run P w= .ok () w'/\jh w' b ke ve (qw L k u)/\qg (λx=>x=b) w w'/\w'.heap.size=w.heap.size:=by
 obtain⟨⟨G,aa,H,Y,ah,ad⟩,af⟩:=h;have I:=J.look V ve k L G.toList w Y;unfold Instr.mapUpdate;cases hq:yy k L 0 with
 | none=>
  rw[hq] at I;simp only[Option.map_none] at I;obtain⟨aq,N,ae,O⟩:=kX hq;refine⟨setBlock w b (.map (G.push {key:=ke k,val:=ve u,born:=aa}) (aa+1)), ?_,⟨⟨_,_,heap_setBlock_same H _, ?_, ?_, ?_⟩, ?_⟩,zG _ _ _,zD _ _ _⟩
  ·simp[run_underlying ai,xv H,J.check,I,yk H,go_sem]
  ·rw[O];simp[Y]
  ·simp only[Array.toList_push,List.map_append,List.map_cons,List.map_nil];rw[List.nodup_append];refine⟨ah,η,λa ac c U=> ?_⟩;obtain⟨e,d,rfl⟩:=List.mem_map.1 ac;have:=ad e d;simp at U;omega
  ·intro e d;simp at d;rcases d with d | rfl
   ·have:=ad e (by simpa using d);omega
   ·exact Nat.lt_succ_self _
  ·rw[O];rw[List.map_append,List.nodup_append];refine⟨af,η,λa ac c U=> ?_⟩;simp at U;subst U;intro e;subst e;exact ae ac
 | some x=>
  obtain⟨i,v⟩:=x;rw[hq] at I;simp only[Option.map_some] at I;obtain⟨aq,N,ae,O,ab⟩:=kW hq;simp only[Nat.sub_zero] at N O ab;have hi:(G.toList.map (λe=>(e.key,e.val)))[i]? =some (ke k,ve v):=by rw[Y,List.getElem?_map,N];rfl
  rw[List.getElem?_map] at hi;obtain⟨e0,am,an⟩:=Option.map_eq_some_iff.1 hi;have ao:G[i]? =some e0:=by simpa using am
  have ap:e0.key=ke k:=congrArg Prod.fst an;have ar:(Instr.keyThatStays (((G[i]?).map (·.key)).getD (ke k)) (ke k)).run P w= .ok (ke k) w:=by
   rw[ao];simp only[Option.map_some,Option.getD_some,ap];unfold Instr.keyThatStays;rw[J.same];rfl
  refine⟨setBlock w b (.map (G.modify i λe=>{e with key:=ke k,val:=ve u}) aa), ?_,⟨⟨_,_,heap_setBlock_same H _, ?_, ?_, ?_⟩, ?_⟩,zG _ _ _,zD _ _ _⟩
  ·simp only[run_underlying ai,xv H,J.check,I,Sem.run_bind,Result.andThen,ar,yk H]
  ·rw[ab,Array.toList_modify,Jy,Y,List.map_set]
  ·rw[Array.toList_modify,kE];exact ah
  ·intro e d;have ag:e.born∈((G.modify i λe=>{e with key:=ke k,val:=ve u}).toList.map (·.born)):=List.mem_map_of_mem d;rw[Array.toList_modify,kE] at ag;obtain⟨ak,au,av⟩:=List.mem_map.1 ag;rw[<-av];exact ad ak au
  ·rw[ab,XY N];exact af
end
end
section
open Go.RowKit Go.ChangeMaps
set_option linter.unusedSectionVars false
theorem uX: ∀{l m:List Nat},l.Nodup->l ⊆ m->l.length<=m.length
 | [],_,_,_=>Nat.zero_le _
 | a::t,m,h,hs=>by
  simp only[List.nodup_cons] at h;have d:a∈m:=hs List.mem_cons_self;have I:t ⊆ m.erase a:=λx G=>(List.mem_erase_of_ne (λe=>h.1 (by rw[<-e];exact G))).2 (hs (List.mem_cons_of_mem _ G))
  have H:=uX h.2 I;rw[List.length_erase_of_mem d] at H;have:=List.length_pos_of_mem d;simp only[List.length_cons];omega
theorem XJ: ∀{l m:List Nat},l.Nodup->l ⊆ m->m.length<=l.length->l.Perm m
 | [],m,_,_,hl=>by
  have:m=[]:=List.eq_nil_of_length_eq_zero (by simpa using hl);rw[this]
 | a::t,m,h,hs,hl=>by
  simp only[List.nodup_cons] at h;have d:a∈m:=hs List.mem_cons_self;have I:t ⊆ m.erase a:=λx G=>(List.mem_erase_of_ne (λe=>h.1 (by rw[<-e];exact G))).2 (hs (List.mem_cons_of_mem _ G))
  have H:=XJ h.2 I (by rw[List.length_erase_of_mem d];simp at hl;omega);exact(H.cons a).trans (List.perm_cons_erase d).symm
section
variable {K V:Type} [DecidableEq K] {P:Program} {w:World} {b:Nat} {ke:K->Value} {ve:V->Value} {L:List (K×V)}
theorem ZX (k:K): ∀(L:List (K×V)),(L.map Prod.fst).Nodup->((yK L k).map Prod.fst).Nodup
 | [],h=>h
 | (a,b)::l,h=>by
  simp only[List.map_cons,List.nodup_cons] at h;unfold yK;split
  ·exact h.2
  ·simp only[List.map_cons,List.nodup_cons];refine⟨λG=>h.1 ?_,ZX k l h.2⟩;obtain⟨x,d,e⟩:=List.mem_map.1 G;rw[<-e];refine List.mem_map_of_mem ?_;clear h G e
   induction l with
   | nil=>exact d
   | cons y l ih=>
    obtain⟨c,H⟩:=y;unfold yK at d;split at d
    ·exact List.mem_cons_of_mem _ d
    ·rcases List.mem_cons.1 d with rfl | d
     ·exact List.mem_cons_self
     ·exact List.mem_cons_of_mem _ (ih d)
theorem jh.drop {aa ag t:TypeId} (h:jh w b ke ve L) (N:yA P aa ke) (af:P.underlying t=some (.map aa ag)) (k:K) (al:TypeId):
  ∃w',(Builtin.delete_ #[t,aa] al #[.map (some b),ke k]).run P w= .ok (.tuple #[]) w'/\jh w' b ke ve (yK L k)/\qg (λx=>x=b) w w'/\w'.heap.size=w.heap.size:=by
 have ac:=ZX k L h.keys;obtain⟨⟨d,O,G,J,ae,ab⟩,am⟩:=h;have H:=N.look V ve k L d.toList w J;unfold Builtin.delete_;cases hq:yy k L 0 with
 | none=>
  rw[hq] at H;simp only[Option.map_none] at H;obtain⟨ah,I,ai,Y⟩:=kX hq;refine⟨setBlock w b (.map d O), ?_,⟨⟨d,O,heap_setBlock_same G _,by rw[I];exact J,ae,ab⟩,ac⟩,zG _ _ _,zD _ _ _⟩;simp[run_underlying af,xv G,N.check,H,yk G,go_sem]
 | some x=>
  obtain⟨i,v⟩:=x;rw[hq] at H;simp only[Option.map_some] at H;obtain⟨ah,I,ai,Y,aj⟩:=kW hq;simp only[Nat.sub_zero] at I Y aj;have hi:i<d.size:=by
   have ak:=congrArg List.length J;simp at ak;have:=(List.getElem?_eq_some_iff.1 I).1;omega
  have U:(d.eraseIdxIfInBounds i).toList=d.toList.eraseIdx i:=by simp[Array.eraseIdxIfInBounds,hi]
  refine⟨setBlock w b (.map (d.eraseIdxIfInBounds i) O), ?_,⟨⟨_,_,heap_setBlock_same G _, ?_, ?_, ?_⟩,ac⟩,zG _ _ _,zD _ _ _⟩
  ·simp[run_underlying af,xv G,N.check,H,yk G,go_sem]
  ·rw[Y,U,map_eraseIdx,J,map_eraseIdx]
  ·rw[U,map_eraseIdx];exact List.Nodup.sublist (List.eraseIdx_sublist _ _) ae
  ·intro e ad;rw[U] at ad;exact ab e (List.Sublist.mem ad (List.eraseIdx_sublist _ _))
structure xg (w:World) (r b:Nat) (ke:K->Value) (ve:V->Value) (L:List (K×V)) (is:List Nat):Prop where
 ex: ∃(es:Array MapEntry) (clock since c0:Nat) (seen:Array Nat),w.heap[r]? =some (.mapIter (some b) since seen c0)/\w.heap[b]? =some (.map es clock)/\seen.toList=is.map (λi=>(es[i]?.map (·.born)).getD 0)/\
  es.toList.map (λe=>(e.key,e.val))=L.map (λp=>(ke p.1,ve p.2))/\(es.toList.map (·.born)).Nodup/\(∀e∈es.toList,e.born<since)/\since<=c0/\since<=clock/\(∀e∈es.toList,e.born<clock)
 nd:is.Nodup
 lt: ∀i∈is,i<L.length
 keys:(L.map Prod.fst).Nodup
theorem xg.away {r:Nat} {is:List Nat} {w':World} {S:Nat->Prop} (h:xg w r b ke ve L is) (m:qg S w w') (J: ¬S r) (O: ¬S b):xg w' r b ke ve L is:=by
 obtain⟨⟨H,G,Y,d,U,N,I,rest⟩,n,l,k⟩:=h;exact⟨⟨H,G,Y,d,U,m.blk N J,m.blk I O,rest⟩,n,l,k⟩
theorem xg.more {r:Nat} {is:List Nat} {w':World} (h:xg w r b ke ve L is) (m:qa w w'):xg w' r b ke ve L is:=h.away (qg.of_more (S:=λ_=>False) m) (λx=>x) (λx=>x)
theorem xg.rlt {r:Nat} {is:List Nat} (h:xg w r b ke ve L is):r<w.heap.size:=by
 obtain⟨⟨I,H,N,G,J,d,_⟩,_⟩:=h;exact lt_of_block d
theorem jh.range {aa J t:TypeId} (h:jh w b ke ve L) (Y:P.underlying t=some (.map aa J)):
  ∃w',(Instr.range t (.map (some b))).run P w= .ok (γ w.heap.size) w'/\xg w' w.heap.size b ke ve L []/\qa w w'/\w'.heap.size=w.heap.size+1:=by
 obtain⟨⟨I,d,G,N,U,H⟩,O⟩:=h;refine⟨w.alloc (.mapIter (some b) d #[] d), ?_,⟨⟨I,d,d,d,#[],qk _ _,qq G _,rfl,N,U,H,Nat.le_refl _,Nat.le_refl _,H⟩,List.nodup_nil,η,O⟩,qa.alloc _ _,η⟩;unfold Instr.range;simp[run_underlying Y,xv G,go_sem]
theorem xg.next {r:Nat} {is:List Nat} (h:xg w r b ke ve L is):
  (is.length=L.length/\ ∀ad,(Instr.next (γ r) false ad).run P w= .ok (.tuple #[μ false]) w)∨
  ∃(i:Nat) (hi:i<L.length) (w':World),i∉is/\is.length<L.length/\(∀ad,(Instr.next (γ r) false ad).run P w= .ok (.tuple #[μ true,ke L[i].1,ve L[i].2]) w')/\
   xg w' r b ke ve L (is++[i])/\qg (λx=>x=r) w w'/\w'.heap.size=w.heap.size/\(Instr.entry (γ r)).run P w'= .ok (.tuple #[ke L[i].1,ve L[i].2]) w':=by
 obtain⟨⟨d,I,N,ao,H,ak,Y,az,af,ai,ay,aB,ap,aF⟩,an,ac,aH⟩:=h;have aN:d.size=L.length:=by
  have:=congrArg List.length af
  simpa using this
 have aE: ∀(i j:Nat) (hi:i<d.size) (G:j<d.size),d[i].born=d[j].born->i=j:=λi j hi G e=>by
  have aw:=List.pairwise_iff_getElem.1 ai;rcases Nat.lt_trichotomy i j with h | h | h
  ·exact absurd (by rw[List.getElem_map,List.getElem_map];exact e) (aw i j (by simpa using hi) (by simpa using G) h)
  ·exact h
  ·exact absurd (by rw[List.getElem_map,List.getElem_map];exact e.symm) (aw j i (by simpa using G) (by simpa using hi) h)
 have au: ∀i (hi:i<d.size),(d[i].born∈H.toList↔i∈is):=λi hi=>by
  rw[az];constructor
  ·intro J;obtain⟨j,G,e⟩:=List.mem_map.1 J;have av:j<d.size:=by rw[aN];exact ac j G
   simp[av] at e;rw[aE i j hi av e.symm];exact G
  ·intro J;exact List.mem_map.2 ⟨i,J,by simp[hi]⟩
 rcases run_next_at (P:=P) w 0 r b N ao H d I ak Y ay aB with ⟨aM,al⟩ | ⟨e,J,w1,ab,al⟩
 ·left;refine⟨?_,λ_=>al⟩;have aC: ∀i,i<L.length->i∈is:=λi hi=>by
   have aG:i<d.size:=by omega
   by_cases J:i∈is
   ·exact J
   ·exfalso;have:d[i]∈(leftOf d H).toList:=by
     unfold leftOf;simp only[Array.toList_filter,List.mem_filter];refine⟨η, ?_⟩;have am:=mt (au i aG).1 J
     simpa using am
    have aq:(leftOf d H).toList.length=0:=by simpa using aM
    rw[List.length_eq_zero_iff] at aq;rw[aq] at this;cases this
  have aO:is.length<=L.length:=by
   have:is ⊆ List.range L.length:=λi hi=>List.mem_range.2 (ac i hi)
   simpa using uX an this
  have p2:L.length<=is.length:=by
   have:List.range L.length ⊆ is:=λi hi=>aC i (List.mem_range.1 hi)
   simpa using uX List.nodup_range this
  omega
 ·right;have ah:e∈d.toList/\e.born∉H.toList:=by
   unfold leftOf at J;simp only[Array.toList_filter,List.mem_filter] at J;exact⟨J.1,by simpa using J.2⟩
  obtain⟨i,hi,aA⟩:=List.mem_iff_getElem.1 ah.1;have ag:i<d.size:=by simpa using hi
  have aa:i<L.length:=by omega
  have e0:d[i]=e:=by simpa using aA
  have aj:i∉is:=by
   intro am;exact ah.2 (by rw[<-e0];exact(au i ag).2 am)
  have U:(e.key,e.val)=(ke L[i].1,ve L[i].2):=by
   have:=congrArg (λl=>l[i]?) af;simp[ag,aa,e0] at this;simp[this]
  simp only[Prod.mk.injEq] at U;have aK:w1.heap[r]? =some (.mapIter (some b) N H ao):=by rcases ab with rfl | rfl<;>exact ak
  have aD:w1.heap[b]? =some (.map d I):=by rcases ab with rfl | rfl<;>exact Y
  have aL:b≠r:=by intro e;rw[e,ak] at Y;cases Y
  have ax:(setBlock w1 r (.mapIter (some b) N (H.push e.born) I)).heap[r]? =some (.mapIter (some b) N (H.push e.born) I):=by
   simp only[setBlock];rw[Array.getElem?_setIfInBounds_self_of_lt (lt_of_block aK)]
  have ar:(setBlock w1 r (.mapIter (some b) N (H.push e.born) I)).heap[b]? =some (.map d I):=by
   simp only[setBlock];rw[Array.getElem?_setIfInBounds_ne (λe=>aL e.symm)];exact aD
  have aI:is.length<L.length:=by
   have aJ:(is++[i]).Nodup:=by
    rw[List.nodup_append];refine⟨an,η,λa ae c O=> ?_⟩;simp at O;subst O;intro e;subst e;exact aj ae
   have:is++[i] ⊆ List.range L.length:=λj G=>by
    simp at G;rcases G with G | rfl
    ·exact List.mem_range.2 (ac j G)
    ·exact List.mem_range.2 aa
   have:=uX aJ this;simp at this;omega
  refine⟨i,aa,setBlock w1 r (.mapIter (some b) N (H.push e.born) I),aj,aI,λad=>by rw[<-U.1,<-U.2];exact al,⟨⟨d,I,N,I,H.push e.born,ax,ar, ?_,af,ai,ay,ap,ap,aF⟩, ?_, ?_,aH⟩, ?_, ?_, ?_⟩
  ·simp[az,ag,e0]
  ·rw[List.nodup_append];refine⟨an,η,λa ae c O=> ?_⟩;simp at O;subst O;intro e;subst e;exact aj ae
  ·intro j G;simp at G;rcases G with G | rfl
   ·exact ac j G
   ·exact aa
  ·have:=zG w1 r (.mapIter (some b) N (H.push e.born) I);rcases ab with rfl | rfl
   ·exact this
   ·exact⟨this.os,this.tape,this.output,this.size,this.block⟩
  ·rw[zD];rcases ab with rfl | rfl<;>rfl
  ·rw[run_entry_at _ r b N H d I e ax ar ah.1 ai,U.1,U.2]
def gF (w:World) (b r:Nat):Nat:=match w.heap[r]?,w.heap[b]? with
 | some (.mapIter _ _ seen _),some (.map es _)=>es.size-seen.size
 | _,_=>0
theorem xg.left {r:Nat} {is:List Nat} (h:xg w r b ke ve L is):gF w b r=L.length-is.length:=by
 obtain⟨⟨d,aa,ab,Y,U,N,I,O,J,_⟩,_⟩:=h;have G:d.size=L.length:=by
  have:=congrArg List.length J
  simpa using this
 have H:U.size=is.length:=by
  have:=congrArg List.length O
  simpa using this
 unfold gF;rw[N,I];simp only[G,H]
def zW (L:List (K×V)) (is:List Nat):List (K×V):=is.filterMap λi=>L[i]?
theorem QF {is:List Nat} {i:Nat} (hi:i<L.length):zW L (is++[i])=zW L is++[L[i]]:=by
 simp[zW,List.filterMap_append,hi]
theorem xg.perm {r:Nat} {is:List Nat} (h:xg w r b ke ve L is) (I:is.length=L.length):(zW L is).Perm L:=by
 have N:is ⊆ List.range L.length:=λi hi=>List.mem_range.2 (h.lt i hi)
 have J:is.Perm (List.range L.length):=XJ h.nd N (by simp[I]);have d:=J.filterMap (λi=>L[i]?);have G:(List.range L.length).filterMap (λi=>L[i]?)=L:=by
  refine List.ext_getElem? λj=> ?_
  have H: ∀n,n<=L.length->(List.range n).filterMap (λi=>L[i]?)=L.take n:=by
   intro n
   induction n with
   | zero=>simp
   | succ n ih=>
    intro O;rw[List.range_succ,List.filterMap_append,ih τ,List.take_succ_eq_append_getElem τ];simp[show n<L.length by omega]
  rw[H L.length (Nat.le_refl _),List.take_length]
 rw[G] at d;exact d
end
theorem At {P:Program} {G:TypeId} {q:IntKind} (d:P.underlying G=some (.int q)):yA P G (Value.int q):=
 yA.of_now d (λa b=>by simp[Instr.sameNow];rw[Bool.eq_iff_iff];simp) (λb k w=>by
  rw[show (10000:Nat)=9999+1 from rfl];unfold Instr.checkKey;rw[Sem.run_bind,run_underlying d]
  rfl) (λk=>by simp[Instr.sameBits])
end
section
open Go.RowKit
abbrev Bk:=List ((Int×Int)×Int)
def ke2 (k:Int×Int):Value:= .agg #[.int .i64 k.1,.int .i64 k.2]
theorem Dj (a b:Int×Int) (w:World):(Op.equal 169 (ke2 a) (ke2 b)).run prog w= .ok (decide (a=b)) w:=by
 have J:prog.stoodInHeld 169=false:=by kernel_rfl
 obtain⟨d,G⟩:=a;obtain⟨H,I⟩:=b;unfold Op.equal ke2;rw[show Op.maxDepth=9999+1 from rfl,run_equalIn_agg w 9999 169 _ _ ξ J];simp[go_sem];by_cases e1:d=H<;>by_cases e2:G=I<;>simp[e1,e2]
theorem Dv {P:Program} {d:TypeId} {q:IntKind} (G:P.underlying d=some (.int q)) (n:Nat) (H:0<n) (b:Bool) (x:Int) (w:World):(Instr.checkKey b n d (.int q x)).run P w= .ok () w:=by
 obtain⟨m,rfl⟩: ∃m,n=m+1:=⟨n-1,τ⟩;unfold Instr.checkKey;rw[Sem.run_bind,run_underlying G];rfl
theorem YC:yA prog 169 ke2:=
 yA.of_ask underlying169 (λa b=>by simp[Instr.sameNow]) Dj (λb k w=>by
  rw[show (10000:Nat)=9999+1 from rfl];unfold Instr.checkKey ke2
  simp[run_underlying underlying169,go_sem,Dv underlying3 9999 ζ]) (λk=>by simp[Instr.sameBits,ke2])
structure ju (w:World) (B b:Nat) (m:Bk):Prop where
 blk:w.heap[B]? =some (.cells #[.map (some b)] 238 (0,0))
 map:jh w b ke2 (Value.int .i64) m
 ok: ∀p∈m,0<=p.2/\p.2<=8
theorem ju.ne {w:World} {B b:Nat} {m:Bk} (h:ju w B b m):B≠b:=by
 intro e;obtain⟨H,G,d,_⟩:=h.map.ex;have:=h.blk;rw[e,d] at this;cases this
theorem ju.more {w w':World} {B b:Nat} {m:Bk} (h:ju w B b m) (d:qa w w'):ju w' B b m:=⟨qc d h.blk,h.map.more d,h.ok⟩
theorem ju.away {w w':World} {B b:Nat} {m:Bk} {S:Nat->Prop} (h:ju w B b m) (a:qg S w w') (d: ¬S B) (G: ¬S b):ju w' B b m:=⟨a.blk h.blk d,h.map.away a G,h.ok⟩
theorem GO (w:World):(zeroValue 80).run prog w= .ok (ι 0) w:=by kernel_rfl
theorem ju.look {w:World} {B b:Nat} {m:Bk} (h:ju w B b m) (k:Int×Int) (n:Nat):
  (Instr.lookup 236 (.map (some b)) (θ #[ι k.1,ι k.2]) true).run prog (w.drewN n)= .ok (.tuple #[ι ((qh m k).getD 0),μ (qh m k).isSome]) (w.drewN n):=by
 have:=(h.map.more (qa.drewN w n)).look YC underlying236 (GO _) k true;unfold ke2 at this;rw[this];cases qh m k<;>rfl
theorem OC (w:World):Calls prog 43 #[] w λe w'=> ∃B b,e= .returned (γ B)/\w.heap.size<=B/\w.heap.size<=b/\ju w' B b []/\qa w w':=by
 go_enter func43,ntmps43
 have d:= @run_makeMap prog;go_wp2;go_ret;exact⟨w.heap.size+1,w.heap.size,rfl,τ,τ,⟨qB η,(jh.made w ke2 (Value.int .i64)).more (qa.alloc _ _),η⟩,(qa.alloc _ _).al _⟩
theorem NC {w:World} {B b:Nat} {m:Bk} (h:ju w B b m) (k:Int×Int):
  Calls prog 61 #[γ B,θ #[ι k.1,ι k.2]] w λe w'=>e= .returned (.tuple #[ι ((qh m k).getD 0),μ (qh m k).isSome])/\qa w w':=by
 have d:=h.more (qa.alloc w (.cells #[ι k.1,ι k.2] 169));have H:=β0 d.blk;have q:=d.look k;clear d h
 go_enter func61,ntmps61
 go_wp2;refine wp_region_quiet_lit ξ ξ ?_
 repeat (go_big_quiet_step (fail))
 refine wpQuiet_nil ?_;intro _ G;obtain⟨nq,rfl⟩:=G;go_wp2
 go_ret2
 exact⟨rfl,(qa.alloc _ _).dr _⟩
end
section
open Go.RowKit
def vZ (m:Bk) (k:Int×Int):Bk×Int:=if 0<=k.1/\k.1<6/\0<=k.2 then (if (qh m k).isSome then (m,6) else (qw m k 0,0)) else (m,1)
def zg (m:Bk) (k:Int×Int) (f:Int):Bk×Int:=if 1<=f/\f<=8 then (if (qh m k).isSome then (if (qh m k).getD 0=0 then (qw m k f,0) else (m,6)) else (m,5)) else (m,1)
theorem VM {K V:Type} [DecidableEq K] {k:K} {v:V}: ∀{m:List (K×V)} {p:K×V},p∈qw m k v->p∈m∨p=(k,v)
 | [],p,h=>by simp[qw] at h;exact Or.inr h
 | (a,b)::l,p,h=>by
  unfold qw at h;split at h
  ·rcases List.mem_cons.1 h with h | h
   ·exact Or.inr h
   ·exact Or.inl (List.mem_cons_of_mem _ h)
  ·rcases List.mem_cons.1 h with h | h
   ·exact Or.inl (by rw[h];exact List.mem_cons_self)
   ·rcases VM h with h | h
    ·exact Or.inl (List.mem_cons_of_mem _ h)
    ·exact Or.inr h
theorem ju.put {w w':World} {B b:Nat} {m:Bk} (h:ju w B b m) (a:qg (λx=>x=b) w w') {k:Int×Int} {f:Int} (G:0<=f/\f<=8) (H:jh w' b ke2 (Value.int .i64) (qw m k f)):ju w' B b (qw m k f):=
 ⟨a.blk h.blk h.ne,H,λp d=>by
  rcases VM d with d | rfl
  ·exact h.ok p d
  ·exact G⟩
theorem OB {w:World} {B b:Nat} {m:Bk} (h:ju w B b m) (k:Int×Int):
  Calls prog 193 #[γ B,θ #[ι k.1,ι k.2]] w λe w'=>e= .returned (ι (vZ m k).2)/\ju w' B b (vZ m k).1/\qg (λx=>x=b) w w':=by
 have I:=h.more (qa.alloc w (.cells #[ι k.1,ι k.2] 169));have ag:=β0 I.blk;have q:=I.look k;have H:=κ I;clear I h;have ac:k.1<0∨(¬k.1<0/\6<=k.1)∨(¬k.1<0/\ ¬6<=k.1/\k.2<0)∨(¬k.1<0/\ ¬6<=k.1/\ ¬k.2<0):=by omega
 rcases ac with g1 | ⟨g1,g2⟩ | ⟨g1,g2,g3⟩ | ⟨g1,g2,g3⟩
 ·have d:vZ m k=(m,1):=by unfold vZ;rw[if_neg τ]
  have G:=κ d;clear d q
  go_enter func193,ntmps193
  go_wp2;go_ret;rw[G.o];exact⟨rfl,H.o,qg.of_more (qa.alloc _ _)⟩
 ·have d:vZ m k=(m,1):=by unfold vZ;rw[if_neg τ]
  have G:=κ d;clear d q
  go_enter func193,ntmps193
  go_wp2;go_ret;rw[G.o];exact⟨rfl,H.o,qg.of_more (qa.alloc _ _)⟩
 ·have d:vZ m k=(m,1):=by unfold vZ;rw[if_neg τ]
  have G:=κ d;clear d q
  go_enter func193,ntmps193
  go_wp2;go_ret;rw[G.o];exact⟨rfl,H.o,qg.of_more (qa.alloc _ _)⟩
 ·cases hs:(qh m k).isSome with
  | true=>
   have d:vZ m k=(m,6):=by unfold vZ;rw[if_pos τ,hs];rfl
   have G:=κ d;simp only[hs] at q;clear d hs
   go_enter func193,ntmps193
   go_wp2;refine wp_region_quiet_lit ξ ξ ?_
   repeat (go_big_quiet_step (fail))
   refine wpQuiet_nil ?_;intro _ J;obtain⟨nq,rfl⟩:=J;go_wp2;go_ret;rw[G.o];exact⟨rfl,H.o.more (qa.drewN _ _),qg.of_more ((qa.alloc _ _).dr _)⟩
  | false=>
   have d:vZ m k=(qw m k 0,0):=by unfold vZ;rw[if_pos τ,hs];rfl
   have G:=κ d;simp only[hs] at q;clear d hs
   go_enter func193,ntmps193
   go_wp2;refine wp_region_quiet_lit ξ ξ ?_
   repeat (go_big_quiet_step (fail))
   refine wpQuiet_nil ?_;intro _ J;obtain⟨nq,rfl⟩:=J
   go_wp2_with fail
   have ad:=λ(x:qp (w.alloc (.cells #[ι k.1,ι k.2] 169)))=>β0 (qc x.h H.o.blk)
   have ae: ∀x:qp (w.alloc (.cells #[ι k.1,ι k.2] 169)),x.w'.cell? ⟨w.heap.size,0,none⟩=some (ι k.1):=λx=>x.new 0 rfl
   have af: ∀x:qp (w.alloc (.cells #[ι k.1,ι k.2] 169)),x.w'.cell? ⟨w.heap.size,1,none⟩=some (ι k.2):=λx=>x.new 1 rfl
   refine Qn (w.alloc (.cells #[ι k.1,ι k.2] 169)) 5 6 [5] ?_
   refine Qq5 ?_
   obtain⟨w9,ab,Y,U,_⟩:=(H.o.map.more (qa.drewN _ (nq+1))).update YC underlying236 k 0;unfold ke2 at ab;have aa:=κ Y;have N:=κ U;clear Y U
   (refine Qe ?_;intro K O)
   refine O _ _ ?_;clear O K;refine qv ?_;go_wp2;go_ret;rw[G.o];exact⟨rfl,(H.o.more (qa.drewN _ (nq+1))).put N.o ζ aa.o,(qg.of_more ((qa.alloc _ _).dr _)).trans N.o⟩
theorem yP (f:Int) (w:World) (h:1<=f/\f<=8):Calls prog 166 #[ι f] w λe w'=>e= .returned (μ true)/\w=w':=by
 obtain⟨d,G⟩:=h
 go_enter func166,ntmps166
 go_wp2;go_ret;exact⟨rfl,rfl⟩
theorem Jp (f:Int) (w:World) (h: ¬(1<=f/\f<=8)):Calls prog 166 #[ι f] w λe w'=>e= .returned (μ false)/\w=w':=by
 have d:f<1∨(¬f<1/\8<f):=by omega
 clear h;rcases d with h1 | ⟨h1,h2⟩
 ·go_enter func166,ntmps166
  go_wp2;go_ret;exact⟨rfl,rfl⟩
 ·go_enter func166,ntmps166
  go_wp2;go_ret;exact⟨jf (by simp;omega),rfl⟩
theorem Hx {w:World} {B b:Nat} {m:Bk} (h:ju w B b m) (k:Int×Int) (f:Int):
  Calls prog 177 #[γ B,θ #[ι k.1,ι k.2],ι f] w λe w'=>e= .returned (ι (zg m k f).2)/\ju w' B b (zg m k f).1/\qg (λx=>x=b) w w':=by
 have N:=h.more (qa.alloc w (.cells #[ι k.1,ι k.2] 169));have ag:=β0 N.blk;have q:=N.look k;have I:=κ N;clear N h;by_cases hf:1<=f/\f<=8
 ·have G:=κ hf;clear hf;cases hs:(qh m k).isSome with
  | false=>
   have d:zg m k f=(m,5):=by unfold zg;rw[if_pos G.o,hs];rfl
   have H:=κ d;simp only[hs] at q;clear d hs
   go_enter func177,ntmps177
   go_wp2_with (go_at_call 166;((with_reducible refine(yP f _ G.o).mono ?_);rintro e w2 ⟨rfl,rfl⟩))
   refine wp_region_quiet_lit ξ ξ ?_
   repeat (go_big_quiet_step (fail))
   refine wpQuiet_nil ?_;intro _ J;obtain⟨nq,rfl⟩:=J;go_wp2;go_ret;rw[H.o];exact⟨rfl,I.o.more (qa.drewN _ _),qg.of_more ((qa.alloc _ _).dr _)⟩
  | true=>
   by_cases hv:(qh m k).getD 0=0
   ·have d:zg m k f=(qw m k f,0):=by unfold zg;rw[if_pos G.o,if_pos hs,if_pos hv]
    have H:=κ d;simp only[hs,hv] at q;clear d hs hv
    go_enter func177,ntmps177
    go_wp2_with (go_at_call 166;((with_reducible refine(yP f _ G.o).mono ?_);rintro e w2 ⟨rfl,rfl⟩))
    refine wp_region_quiet_lit ξ ξ ?_
    repeat (go_big_quiet_step (fail))
    refine wpQuiet_nil ?_;intro _ J;obtain⟨nq,rfl⟩:=J
    go_wp2_with fail
    have ad:=λ(x:qp (w.alloc (.cells #[ι k.1,ι k.2] 169)))=>β0 (qc x.h I.o.blk)
    have ae: ∀x:qp (w.alloc (.cells #[ι k.1,ι k.2] 169)),x.w'.cell? ⟨w.heap.size,0,none⟩=some (ι k.1):=λx=>x.new 0 rfl
    have af: ∀x:qp (w.alloc (.cells #[ι k.1,ι k.2] 169)),x.w'.cell? ⟨w.heap.size,1,none⟩=some (ι k.2):=λx=>x.new 1 rfl
    refine Qn (w.alloc (.cells #[ι k.1,ι k.2] 169)) 6 7 [6] ?_
    refine Qq6 ?_
    obtain⟨w9,ac,aa,Y,_⟩:=(I.o.map.more (qa.drewN _ (nq+1))).update YC underlying236 k f;unfold ke2 at ac;have ab:=κ aa;have O:=κ Y;clear aa Y
    (refine Qe ?_;intro K U)
    refine U _ _ ?_;clear U K;refine qv ?_;go_wp2;go_ret;rw[H.o];exact⟨rfl,(I.o.more (qa.drewN _ (nq+1))).put O.o (by have:=G.o;omega) ab.o,(qg.of_more ((qa.alloc _ _).dr _)).trans O.o⟩
   ·have d:zg m k f=(m,6):=by unfold zg;rw[if_pos G.o,if_pos hs,if_neg hv]
    have H:=κ d;simp only[hs] at q;generalize (qh m k).getD 0=fv at *;have ah:(fv != 0)=true:=by simpa using hv
    clear d hs hv
    go_enter func177,ntmps177
    go_wp2_with (go_at_call 166;((with_reducible refine(yP f _ G.o).mono ?_);rintro e w2 ⟨rfl,rfl⟩))
    refine wp_region_quiet_lit ξ ξ ?_
    repeat (go_big_quiet_step (fail))
    refine wpQuiet_nil ?_;intro _ J;obtain⟨nq,rfl⟩:=J;go_wp2;go_ret;rw[H.o];exact⟨rfl,I.o.more (qa.drewN _ _),qg.of_more ((qa.alloc _ _).dr _)⟩
 ·have d:zg m k f=(m,1):=by unfold zg;rw[if_neg hf]
  have H:=κ d;have G:=κ hf;clear d q hf
  go_enter func177,ntmps177
  go_wp2_with (go_at_call 166;((with_reducible refine(Jp f _ G.o).mono ?_);rintro e w2 ⟨rfl,rfl⟩))
  go_ret;rw[H.o];exact⟨rfl,I.o,qg.of_more (qa.alloc _ _)⟩
end
section
open Go.RowKit
abbrev Og:=Int×Int
abbrev Sb:=Int×Bool×Int
structure TS where
 o:List (Int×Og)
 s:List (Og×Int)
 u:List (Int×Sb)
def kO (k:Og):Value:= .agg #[.int .i64 k.1,.int .i64 k.2]
def vS (x:Sb):Value:= .agg #[.int .u32 x.1,.bool x.2.1,.int .i64 x.2.2]
theorem Dh (a b:Og) (w:World):(Op.equal 58 (kO a) (kO b)).run prog w= .ok (decide (a=b)) w:=by
 have J:prog.stoodInHeld 58=false:=by kernel_rfl
 obtain⟨d,G⟩:=a;obtain⟨H,I⟩:=b;unfold Op.equal kO;rw[show Op.maxDepth=9999+1 from rfl,run_equalIn_agg w 9999 58 _ _ ξ J];simp[go_sem];by_cases e1:d=H<;>by_cases e2:G=I<;>simp[e1,e2]
theorem Gt {P:Program} {d:TypeId} {q:IntKind} (G:P.underlying d=some (.int q)) (n:Nat) (H:0<n) (b:Bool) (x:Int) (w:World):(Instr.checkKey b n d (.int q x)).run P w= .ok () w:=by
 obtain⟨m,rfl⟩: ∃m,n=m+1:=⟨n-1,τ⟩;unfold Instr.checkKey;rw[Sem.run_bind,run_underlying G];rfl
theorem YB:yA prog 58 kO:=
 yA.of_ask underlying58 (λa b=>by simp[Instr.sameNow]) Dh (λb k w=>by
  rw[show (10000:Nat)=9999+1 from rfl];unfold Instr.checkKey kO
  simp[run_underlying underlying58,go_sem,Gt underlying3 9999 ζ]) (λk=>by simp[Instr.sameBits,kO])
theorem As:yA prog 38 (Value.int .u32):=At underlying38
theorem kJ:yA prog 3 (Value.int .i64):=At underlying3
structure jo (w:World) (T a b c:Nat) (t:TS):Prop where
 blk:w.heap[T]? =some (.cells #[.map (some a),.map (some b),.map (some c)] 242 (0,0))
 mo:jh w a (Value.int .u32) kO t.o
 ms:jh w b kO (Value.int .u32) t.s
 mu:jh w c (Value.int .i64) vS t.u
 ab:a≠b
 ac:a≠c
 bc:b≠c
theorem Uc {K V:Type} {w:World} {B b:Nat} {cs:Array Value} {t:TypeId} {ke:K->Value} {H:V->Value} {L:List (K×V)} (h:w.heap[B]? =some (.cells cs t (0,0))) (G:jh w b ke H L):B≠b:=by
 intro e;obtain⟨J,I,d,_⟩:=G.ex;rw[e,d] at h;cases h
theorem jo.more {w w':World} {T a b c:Nat} {t:TS} (h:jo w T a b c t) (m:qa w w'):jo w' T a b c t:=⟨qc m h.blk,h.mo.more m,h.ms.more m,h.mu.more m,h.ab,h.ac,h.bc⟩
theorem jo.away {w w':World} {T a b c:Nat} {t:TS} {S:Nat->Prop} (h:jo w T a b c t) (m:qg S w w') (d: ¬S T) (G: ¬S a) (H: ¬S b) (I: ¬S c):jo w' T a b c t:=⟨m.blk h.blk d,h.mo.away m G,h.ms.away m H,h.mu.away m I,h.ab,h.ac,h.bc⟩
theorem jo.putO {w w':World} {T a b c:Nat} {t:TS} (h:jo w T a b c t) (m:qg (λz=>z=a) w w') {o:List (Int×Og)} (d:jh w' a (Value.int .u32) kO o):jo w' T a b c {t with o:=o}:=
 ⟨m.blk h.blk (Uc h.blk h.mo),d,h.ms.away m (λe=>h.ab e.symm),h.mu.away m (λe=>h.ac e.symm),h.ab,h.ac,h.bc⟩
theorem jo.putS {w w':World} {T a b c:Nat} {t:TS} (h:jo w T a b c t) (m:qg (λz=>z=b) w w') {s:List (Og×Int)} (d:jh w' b kO (Value.int .u32) s):jo w' T a b c {t with s:=s}:=
 ⟨m.blk h.blk (Uc h.blk h.ms),h.mo.away m h.ab,d,h.mu.away m (λe=>h.bc e.symm),h.ab,h.ac,h.bc⟩
theorem jo.putU {w w':World} {T a b c:Nat} {t:TS} (h:jo w T a b c t) (m:qg (λz=>z=c) w w') {u:List (Int×Sb)} (d:jh w' c (Value.int .i64) vS u):jo w' T a b c {t with u:=u}:=
 ⟨m.blk h.blk (Uc h.blk h.mu),h.mo.away m h.ac,h.ms.away m h.bc,d,h.ab,h.ac,h.bc⟩
theorem AT (w:World):(zeroValue 58).run prog w= .ok (θ #[ι 0,ι 0]) w:=by kernel_rfl
theorem AP (w:World):(zeroValue 38).run prog w= .ok (ω 0) w:=by kernel_rfl
theorem Vo (w:World):(zeroValue 298).run prog w= .ok (θ #[ω 0,false,ι 0]) w:=by kernel_rfl
theorem jo.lookO {w:World} {T a b c:Nat} {t:TS} (h:jo w T a b c t) (s:Int):
  (Instr.lookup 239 (.map (some a)) (ω s) true).run prog w= .ok (.tuple #[θ #[ι ((qh t.o s).getD (0,0)).1,ι ((qh t.o s).getD (0,0)).2],μ (qh t.o s).isSome]) w:=by
 rw[h.mo.look As underlying239 (AT w) s true];cases qh t.o s<;>rfl
theorem jo.lookS {w:World} {T a b c:Nat} {t:TS} (h:jo w T a b c t) (k:Og):
  (Instr.lookup 47 (.map (some b)) (θ #[ι k.1,ι k.2]) true).run prog w= .ok (.tuple #[ω ((qh t.s k).getD 0),μ (qh t.s k).isSome]) w:=by
 have:=h.ms.look YB underlying47 (AP w) k true;unfold kO at this;rw[this];cases qh t.s k<;>rfl
def sb0:Sb:=(0,false,0)
theorem jo.lookU {w:World} {T a b c:Nat} {t:TS} (h:jo w T a b c t) (x:Int):
  (Instr.lookup 240 (.map (some c)) (ι x) true).run prog w= .ok (.tuple #[θ #[ω ((qh t.u x).getD sb0).1,μ ((qh t.u x).getD sb0).2.1,ι ((qh t.u x).getD sb0).2.2],μ (qh t.u x).isSome]) w:=by
 rw[h.mu.look kJ underlying240 (Vo w) x true];cases qh t.u x<;>rfl
theorem jo.lookU1 {w:World} {T a b c:Nat} {t:TS} (h:jo w T a b c t) (x:Int):
  (Instr.lookup 240 (.map (some c)) (ι x) false).run prog w= .ok (θ #[ω ((qh t.u x).getD sb0).1,μ ((qh t.u x).getD sb0).2.1,ι ((qh t.u x).getD sb0).2.2]) w:=by
 rw[h.mu.look kJ underlying240 (Vo w) x false];cases qh t.u x<;>rfl
theorem Nq (w:World):Calls prog 44 #[] w λe w'=> ∃T a b c,e= .returned (γ T)/\w.heap.size<=T/\w.heap.size<=a/\w.heap.size<=b/\w.heap.size<=c/\jo w' T a b c ⟨[],[],[]⟩/\qa w w':=by
 go_enter func44,ntmps44
 have d:= @run_makeMap prog;go_wp2;go_ret;refine⟨w.heap.size+3,w.heap.size,w.heap.size+1,w.heap.size+2,η,τ,τ,τ,τ,⟨qB η,(jh.made w _ _).more (((qa.alloc _ _).al _).al _), ?_, ?_,τ,τ,τ⟩,(((qa.alloc _ _).al _).al _).al _⟩
 ·have:=(jh.made (w.alloc (.map #[] 0)) kO (Value.int .u32)).more ((qa.alloc _ (.map #[] 0)).al (.cells #[.map (some w.heap.size),.map (some (w.heap.size+1)),.map (some (w.heap.size+2))] 242))
  simpa using this
 ·have:=(jh.made ((w.alloc (.map #[] 0)).alloc (.map #[] 0)) (Value.int .i64) vS).more (qa.alloc _ (.cells #[.map (some w.heap.size),.map (some (w.heap.size+1)),.map (some (w.heap.size+2))] 242))
  simpa using this
theorem LH {w:World} {T a b c:Nat} {t:TS} (h:jo w T a b c t) (s:Int):
  Calls prog 131 #[γ T,ω s] w λe w'=>e= .returned (.tuple #[θ #[ι ((qh t.o s).getD (0,0)).1,ι ((qh t.o s).getD (0,0)).2],μ (qh t.o s).isSome])/\qa w w':=by
 have d:=h.more (qa.alloc w (.cells #[ι 0,ι 0] 58));have G:=β0 d.blk;have q:=d.lookO s;clear d h;generalize (qh t.o s).getD (0,0)=x at *
 go_enter func131,ntmps131
 go_wp2
 (refine bodyPost_ret (v:= .tuple #[θ #[ι x.1,ι x.2],μ (qh t.o s).isSome]) ?rr1 rfl ?_;(case rr1=>(simp[results,results131,go_sem])))
 exact⟨rfl,(qa.alloc _ _).al _⟩
theorem Ej {w:World} {T a b c:Nat} {t:TS} (h:jo w T a b c t) (k:Og):
  Calls prog 143 #[γ T,θ #[ι k.1,ι k.2]] w λe w'=>e= .returned (.tuple #[ω ((qh t.s k).getD 0),μ (qh t.s k).isSome])/\qa w w':=by
 have d:=h.more (qa.alloc w (.cells #[ι k.1,ι k.2] 58));have H:=β1 d.blk;have q:=λn=>(d.more (qa.drewN _ n)).lookS k
 clear d h
 go_enter func143,ntmps143
 go_wp2;refine wp_region_quiet_lit ξ ξ ?_
 repeat (go_big_quiet_step (fail))
 refine wpQuiet_nil ?_;intro _ G;obtain⟨nq,rfl⟩:=G;go_wp2
 go_ret2
 exact⟨rfl,(qa.alloc _ _).dr _⟩
theorem Mf {w:World} {T a b c:Nat} {t:TS} (h:jo w T a b c t) (x:Int):
  Calls prog 90 #[γ T,ι x] w λe w'=>e= .returned (.tuple #[ι ((qh t.u x).getD sb0).2.2,μ ((qh t.u x).getD sb0).2.1])/\qa w w':=by
 have G:=β2 h.blk;have q:=h.lookU1 x;clear h;generalize (qh t.u x).getD sb0=y at *
 go_enter func90,ntmps90
 go_wp2;refine wp_region_quiet_lit ξ ξ ?_
 repeat (go_big_quiet_step (fail))
 refine wpQuiet_nil ?_;intro _ d;obtain⟨nq,rfl⟩:=d;go_wp2
 go_ret2
 exact⟨rfl,(qa.alloc _ _).dr _⟩
theorem yC {w:World} {T a b c:Nat} {t:TS} (h:jo w T a b c t) (p:Int):
  Calls prog 165 #[γ T,ι p] w λe w'=>e= .returned (μ (qh t.s (p,0)).isSome)/\w=w':=by
 have d:=β1 h.blk;have q:=h.lookS (p,0);simp only at q;clear h
 go_enter func165,ntmps165
 go_wp2;go_ret;exact⟨rfl,rfl⟩
theorem vB (p:Int) (w:World) (h:0<=p/\p<3):Calls prog 163 #[ι p] w λe w'=>e= .returned (μ true)/\w=w':=by
 obtain⟨d,G⟩:=h
 go_enter func163,ntmps163
 go_wp2;go_ret;exact⟨jf (by simp<;>omega),rfl⟩
theorem Yi (p:Int) (w:World) (h: ¬(0<=p/\p<3)):Calls prog 163 #[ι p] w λe w'=>e= .returned (μ false)/\w=w':=by
 have d:p<0∨(0<=p/\3<=p):=by omega
 clear h;rcases d with h1 | ⟨h1,h2⟩
 ·go_enter func163,ntmps163
  go_wp2;go_ret;exact⟨jf η,rfl⟩
 ·go_enter func163,ntmps163
  go_wp2;go_ret;exact⟨jf (by simp<;>omega),rfl⟩
theorem xb (p:Int) (w:World) (h:0<=p/\p<6):Calls prog 145 #[ι p] w λe w'=>e= .returned (μ true)/\w=w':=by
 obtain⟨d,G⟩:=h
 go_enter func145,ntmps145
 go_wp2;go_ret;exact⟨jf (by simp<;>omega),rfl⟩
theorem wj (p:Int) (w:World) (h: ¬(0<=p/\p<6)):Calls prog 145 #[ι p] w λe w'=>e= .returned (μ false)/\w=w':=by
 have d:p<0∨(0<=p/\6<=p):=by omega
 clear h;rcases d with h1 | ⟨h1,h2⟩
 ·go_enter func145,ntmps145
  go_wp2;go_ret;exact⟨jf η,rfl⟩
 ·go_enter func145,ntmps145
  go_wp2;go_ret;exact⟨jf (by simp<;>omega),rfl⟩
end
section
open Go.RowKit
def yI (t:TS) (x own:Int):TS×Int:=if 0<=x/\x<6 then (if (qh t.u x).isSome then (t,6) else ({t with u:=qw t.u x (own,false,0)},0)) else (t,1)
def yb (t:TS) (x:Int):TS×Int:=if 0<=x/\x<6 then (if (qh t.u x).isSome then ({t with u:=yK t.u x},0) else (t,5)) else (t,1)
def vO (t:TS) (x p:Int):TS×Int:=if (0<=x/\x<6)/\(0<=p/\p<3) then (if (qh t.u x).isSome/\(qh t.s (p,0)).isSome then (if ((qh t.u x).getD sb0).2.1 then (t,6) else ({t with u:=qw t.u x (((qh t.u x).getD sb0).1,true,p)},0)) else (t,5)) else (t,1)
def zL (t:TS) (x:Int):TS×Int:=if 0<=x/\x<6 then (if (qh t.u x).isSome/\((qh t.u x).getD sb0).2.1 then ({t with u:=qw t.u x (((qh t.u x).getD sb0).1,false,0)},0) else (t,5)) else (t,1)
theorem jw {P:Program} {f:FuncId} {args:Array Value} {w:World} {T a b c:Nat} {r:TS×Int} {t':TS} {v:Int} (hr:r=(t',v)) (h:Calls P f args w λe w'=>e= .returned (ι v)/\jo w' T a b c t'/\qg (λz=>z=c) w w'):
  Calls P f args w λe w'=>e= .returned (ι r.2)/\jo w' T a b c r.1/\qg (λz=>z=c) w w':=by
 subst hr;exact h
theorem LG {w:World} {T a b c:Nat} {t:TS} (h:jo w T a b c t) (x own:Int):
  Calls prog 87 #[γ T,ι x,ω own] w λe w'=>e= .returned (ι (yI t x own).2)/\jo w' T a b c (yI t x own).1/\qg (λz=>z=c) w w':=by
 have c2:=β2 h.blk;have q:=h.lookU x;have HT:=κ h;by_cases hx:0<=x/\x<6
 ·have HX:=κ hx;obtain⟨y,hy⟩:=ν ((qh t.u x).getD sb0);rw[hy] at q;clear hy;cases hs:(qh t.u x).isSome with
  | true=>
   refine jw (t':=t) (v:=6) (by unfold yI;rw[if_pos hx,if_pos hs]) ?_;rw[hs] at q;clear hx hs h
   go_enter func87,ntmps87
   go_wp2_with (go_at_call 145;(go_call xb x _ HX.o as e w2 ⟨rfl,rfl⟩))
   go_ret;exact⟨rfl,HT.o.more (qa.alloc _ _),qg.of_more (qa.alloc _ _)⟩
  | false=>
   refine jw (t':={t with u:=qw t.u x (own,false,0)}) (v:=0) (by unfold yI;rw[if_pos hx,hs];rfl) ?_;rw[hs] at q;clear hx hs h;have c3:=β2 (qq HT.o.blk (.cells #[ω y.1,y.2.1,ι y.2.2] 298));obtain⟨w9,hr,hm,ha,_⟩:=(HT.o.mu.more (qa.alloc w (.cells #[ω y.1,y.2.1,ι y.2.2] 298))).update kJ underlying240 x (own,false,0);unfold vS at hr;simp only at hr;have HM:=κ hm;have HA:=κ ha;clear hm ha
   go_enter func87,ntmps87
   go_wp2_with (go_at_call 145;(go_call xb x _ HX.o as e w2 ⟨rfl,rfl⟩))
   go_ret;exact⟨rfl,(HT.o.more (qa.alloc w _)).putU HA.o HM.o,(qg.of_more (qa.alloc _ _)).trans HA.o⟩
 ·have HX:=κ hx;refine jw (t':=t) (v:=1) (by unfold yI;rw[if_neg hx]) ?_;clear hx q
  go_enter func87,ntmps87
  go_wp2_with (go_at_call 145;(go_call wj x _ HX.o as e w2 ⟨rfl,rfl⟩))
  go_ret;exact⟨rfl,HT.o,qg.refl _ _⟩
theorem Ha {w:World} {T a b c:Nat} {t:TS} (h:jo w T a b c t) (x:Int):
  Calls prog 106 #[γ T,ι x] w λe w'=>e= .returned (ι (yb t x).2)/\jo w' T a b c (yb t x).1/\qg (λz=>z=c) w w':=by
 have c2:=β2 h.blk;have q:=h.lookU x;have HT:=κ h;by_cases hx:0<=x/\x<6
 ·have HX:=κ hx;obtain⟨y,hy⟩:=ν ((qh t.u x).getD sb0);rw[hy] at q;clear hy;cases hs:(qh t.u x).isSome with
  | false=>
   refine jw (t':=t) (v:=5) (by unfold yb;rw[if_pos hx,hs];rfl) ?_;rw[hs] at q;clear hx hs h
   go_enter func106,ntmps106
   go_wp2_with (go_at_call 145;(go_call xb x _ HX.o as e w2 ⟨rfl,rfl⟩))
   go_ret;exact⟨rfl,HT.o.more (qa.alloc _ _),qg.of_more (qa.alloc _ _)⟩
  | true=>
   refine jw (t':={t with u:=yK t.u x}) (v:=0) (by unfold yb;rw[if_pos hx,if_pos hs]) ?_;rw[hs] at q;clear hx hs h;have c3:=β2 (qq HT.o.blk (.cells #[ω y.1,y.2.1,ι y.2.2] 298));obtain⟨w9,hr,hm,ha,_⟩:=(HT.o.mu.more (qa.alloc w (.cells #[ω y.1,y.2.1,ι y.2.2] 298))).drop kJ underlying240 x 0;have hr: ∀ty,(Builtin.delete_ #[240,3] ty #[.map (some c),ι x]).run prog (w.alloc (.cells #[ω y.1,y.2.1,ι y.2.2] 298))= .ok (.tuple #[]) w9:=λ_=>hr
   have HM:=κ hm;have HA:=κ ha;clear hm ha
   go_enter func106,ntmps106
   go_wp2_with (go_at_call 145;(go_call xb x _ HX.o as e w2 ⟨rfl,rfl⟩))
   go_ret;exact⟨rfl,(HT.o.more (qa.alloc w _)).putU HA.o HM.o,(qg.of_more (qa.alloc _ _)).trans HA.o⟩
 ·have HX:=κ hx;refine jw (t':=t) (v:=1) (by unfold yb;rw[if_neg hx]) ?_;clear hx q
  go_enter func106,ntmps106
  go_wp2_with (go_at_call 145;(go_call wj x _ HX.o as e w2 ⟨rfl,rfl⟩))
  go_ret;exact⟨rfl,HT.o,qg.refl _ _⟩
theorem Jn {w:World} {T a b c:Nat} {t:TS} (h:jo w T a b c t) (x p:Int):
  Calls prog 105 #[γ T,ι x,ι p] w λe w'=>e= .returned (ι (vO t x p).2)/\jo w' T a b c (vO t x p).1/\qg (λz=>z=c) w w':=by
 have c2:=β2 h.blk;have q:=h.lookU x;have HT:=κ h;by_cases hx:0<=x/\x<6
 ·have HX:=κ hx;by_cases hp:0<=p/\p<3
  ·have HP:=κ hp;obtain⟨y,hy⟩:=ν ((qh t.u x).getD sb0);cases hs:(qh t.u x).isSome with
   | false=>
    refine jw (t':=t) (v:=5) (by unfold vO;rw[if_pos ⟨hx,hp⟩,hs];rfl) ?_;rw[hs,hy] at q;clear hx hs h hp hy
    go_enter func105,ntmps105
    go_wp2_with first | (go_at_call 145;(go_call xb x _ HX.o as e w2 ⟨rfl,rfl⟩)) | (go_at_call 163;(go_call vB p _ HP.o as e w2 ⟨rfl,rfl⟩))
    go_ret;exact⟨rfl,HT.o.more (qa.alloc _ _),qg.of_more (qa.alloc _ _)⟩
   | true=>
    cases hps:(qh t.s (p,0)).isSome with
    | false=>
     refine jw (t':=t) (v:=5) (by unfold vO;rw[if_pos ⟨hx,hp⟩,hps];simp) ?_;have HPS:=κ hps;rw[hs,hy] at q;clear hx hs h hp hy hps
     go_enter func105,ntmps105
     go_wp2_with first | (go_at_call 145;(go_call xb x _ HX.o as e w2 ⟨rfl,rfl⟩)) | (go_at_call 163;(go_call vB p _ HP.o as e w2 ⟨rfl,rfl⟩)) | (go_at_call 165;(go_call yC (HT.o.more (qa.alloc w (.cells #[ω y.1,y.2.1,ι y.2.2] 298))) p as e w2 ⟨rfl,rfl⟩;rw[HPS.o]))
     go_ret;exact⟨rfl,HT.o.more (qa.alloc _ _),qg.of_more (qa.alloc _ _)⟩
    | true=>
     have HPS:=κ hps;cases hb:y.2.1 with
     | true=>
      refine jw (t':=t) (v:=6) (by unfold vO;rw[if_pos ⟨hx,hp⟩,if_pos ⟨hs,hps⟩,hy,hb];rfl) ?_;rw[hs,hy,hb] at q;clear hx hs h hp hy hps hb
      go_enter func105,ntmps105
      go_wp2_with first | (go_at_call 145;(go_call xb x _ HX.o as e w2 ⟨rfl,rfl⟩)) | (go_at_call 163;(go_call vB p _ HP.o as e w2 ⟨rfl,rfl⟩)) | (go_at_call 165;(go_call yC (HT.o.more (qa.alloc w (.cells #[ω y.1,true,ι y.2.2] 298))) p as e w2 ⟨rfl,rfl⟩;rw[HPS.o]))
      go_ret;exact⟨rfl,HT.o.more (qa.alloc _ _),qg.of_more (qa.alloc _ _)⟩
     | false=>
      refine jw (t':={t with u:=qw t.u x (y.1,true,p)}) (v:=0) (by unfold vO;rw[if_pos ⟨hx,hp⟩,if_pos ⟨hs,hps⟩,hy,hb];rfl) ?_;rw[hs,hy] at q;rw[hb] at q;clear hx hs h hp hy hps hb;have L0: ∀z:qp (w.alloc (.cells #[ω y.1,false,ι y.2.2] 298)),z.w'.cell? ⟨T,2,none⟩=some (.map (some c)):=λz=>qb (qc z.h (qq HT.o.blk _)) 2 rfl
      have L1: ∀z:qp (w.alloc (.cells #[ω y.1,false,ι y.2.2] 298)),z.w'.cell? ⟨w.heap.size,0,none⟩=some (ω y.1):=λz=>z.new 0 rfl
      obtain⟨w9,hr,hm,ha,_⟩:=((HT.o.mu.more (qa.alloc w (.cells #[ω y.1,false,ι y.2.2] 298))).more (qa.drewN _ 1)).update kJ underlying240 x (y.1,true,p);unfold vS at hr;simp only at hr;have HM:=κ hm;have HA:=κ ha;clear hm ha
      go_enter func105,ntmps105
      go_wp2_with first | (go_at_call 145;(go_call xb x _ HX.o as e w2 ⟨rfl,rfl⟩)) | (go_at_call 163;(go_call vB p _ HP.o as e w2 ⟨rfl,rfl⟩)) | (go_at_call 165;(go_call yC (HT.o.more (qa.alloc w (.cells #[ω y.1,false,ι y.2.2] 298))) p as e w2 ⟨rfl,rfl⟩;rw[HPS.o]))
      refine Qn (w.alloc (.cells #[ω y.1,false,ι y.2.2] 298)) 9 10 [9] ?_
      refine Qq9 ?_
      (refine Qe ?_;intro K hK)
      refine hK _ _ ?_;clear hK K;refine qv ?_;go_wp2;go_ret;exact⟨rfl,((HT.o.more (qa.alloc w _)).more (qa.drewN _ 1)).putU HA.o HM.o,(qg.of_more ((qa.alloc _ _).dr 1)).trans HA.o⟩
  ·have HP:=κ hp;refine jw (t':=t) (v:=1) (by unfold vO;rw[if_neg (λh=>hp h.2)]) ?_;clear hx q hp
   go_enter func105,ntmps105
   go_wp2_with first | (go_at_call 145;(go_call xb x _ HX.o as e w2 ⟨rfl,rfl⟩)) | (go_at_call 163;(go_call Yi p _ HP.o as e w2 ⟨rfl,rfl⟩))
   go_ret;exact⟨rfl,HT.o,qg.refl _ _⟩
 ·have HX:=κ hx;refine jw (t':=t) (v:=1) (by unfold vO;rw[if_neg (λh=>hx h.1)]) ?_;clear hx q
  go_enter func105,ntmps105
  go_wp2_with (go_at_call 145;(go_call wj x _ HX.o as e w2 ⟨rfl,rfl⟩))
  go_ret;exact⟨rfl,HT.o,qg.refl _ _⟩
theorem Zv {w:World} {T a b c:Nat} {t:TS} (h:jo w T a b c t) (x:Int):
  Calls prog 123 #[γ T,ι x] w λe w'=>e= .returned (ι (zL t x).2)/\jo w' T a b c (zL t x).1/\qg (λz=>z=c) w w':=by
 have c2:=β2 h.blk;have q:=h.lookU x;have HT:=κ h;by_cases hx:0<=x/\x<6
 ·have HX:=κ hx;obtain⟨y,hy⟩:=ν ((qh t.u x).getD sb0);cases hs:(qh t.u x).isSome with
  | false=>
   refine jw (t':=t) (v:=5) (by unfold zL;rw[if_pos hx,hs];rfl) ?_;rw[hs,hy] at q;clear hx hs h hy
   go_enter func123,ntmps123
   go_wp2_with (go_at_call 145;(go_call xb x _ HX.o as e w2 ⟨rfl,rfl⟩))
   go_ret;exact⟨rfl,HT.o.more (qa.alloc _ _),qg.of_more (qa.alloc _ _)⟩
  | true=>
   cases hb:y.2.1 with
   | false=>
    refine jw (t':=t) (v:=5) (by unfold zL;rw[if_pos hx,hy,hb];simp) ?_;rw[hs,hy,hb] at q;clear hx hs h hy hb
    go_enter func123,ntmps123
    go_wp2_with (go_at_call 145;(go_call xb x _ HX.o as e w2 ⟨rfl,rfl⟩))
    go_ret;exact⟨rfl,HT.o.more (qa.alloc _ _),qg.of_more (qa.alloc _ _)⟩
   | true=>
    refine jw (t':={t with u:=qw t.u x (y.1,false,0)}) (v:=0) (by unfold zL;rw[if_pos hx,hy,hb,hs];rfl) ?_;rw[hs,hy,hb] at q;clear hx hs h hy hb;have L0: ∀z:qp (w.alloc (.cells #[ω y.1,true,ι y.2.2] 298)),z.w'.cell? ⟨T,2,none⟩=some (.map (some c)):=λz=>qb (qc z.h (qq HT.o.blk _)) 2 rfl
    have L1: ∀z:qp (w.alloc (.cells #[ω y.1,true,ι y.2.2] 298)),z.w'.cell? ⟨w.heap.size,0,none⟩=some (ω y.1):=λz=>z.new 0 rfl
    obtain⟨w9,hr,hm,ha,_⟩:=((HT.o.mu.more (qa.alloc w (.cells #[ω y.1,true,ι y.2.2] 298))).more (qa.drewN _ 1)).update kJ underlying240 x (y.1,false,0);unfold vS at hr;simp only at hr;have HM:=κ hm;have HA:=κ ha;clear hm ha
    go_enter func123,ntmps123
    go_wp2_with (go_at_call 145;(go_call xb x _ HX.o as e w2 ⟨rfl,rfl⟩))
    refine Qn (w.alloc (.cells #[ω y.1,true,ι y.2.2] 298)) 8 9 [8] ?_
    refine Qq8 ?_
    (refine Qe ?_;intro K hK)
    refine hK _ _ ?_;clear hK K;refine qv ?_;go_wp2;go_ret;exact⟨rfl,((HT.o.more (qa.alloc w _)).more (qa.drewN _ 1)).putU HA.o HM.o,(qg.of_more ((qa.alloc _ _).dr 1)).trans HA.o⟩
 ·have HX:=κ hx;refine jw (t':=t) (v:=1) (by unfold zL;rw[if_neg hx]) ?_;clear hx q
  go_enter func123,ntmps123
  go_wp2_with (go_at_call 145;(go_call wj x _ HX.o as e w2 ⟨rfl,rfl⟩))
  go_ret;exact⟨rfl,HT.o,qg.refl _ _⟩
end
section
open Go.RowKit
abbrev qR:=Int×Int×List Int×Unit
def yG:qJ qR:=zd 1 (vd .u8) (zd 1 (vd .u8) (zd 1 (RSl 1 (vd .u8)) GH))
def xt:qR:=(0,0,[],())
structure xh (c:qR):Prop where
 n:0<=c.1/\c.1<=255
 t:0<=c.2.1/\c.2.1<=255
 byt:Byt c.2.2.1
theorem DZ {n:Int} (h:0<=n/\n<=255):(Lit.int .u8 n).wf=true:=by
 simp[Lit.wf,IntKind.min,IntKind.max,IntKind.signed,IntKind.bits];omega
theorem Lx {l:List Int} (h:Byt l): ∀n∈l,(Lit.int .u8 n).wf=true:=by
 intro n d;obtain⟨i,hi,rfl⟩:=List.mem_iff_getElem.1 d;have:=h i;rw[List.getD_eq_getElem?_getD,List.getElem?_eq_getElem hi,Option.getD_some] at this;exact DZ this
theorem CU {w:World} {cs:List Value} {c:qR} (h:yG w cs c) (N:cs.length=3): ∃vb,cs=[υ c.1,υ c.2.1,vb]/\SlI .u8 w vb c.2.2.1/\xh c:=by
 match cs,N with
 | [k0,k1,k2],_=>
  obtain⟨⟨d,I⟩,⟨G,J⟩,⟨vb,H,s2⟩,_⟩:=h;simp at d G H;subst d G H;exact⟨k2,rfl,s2.ints.1,⟨bounds_u8 I,bounds_u8 J,Byt.of_wf s2.ints.2⟩⟩
theorem Kb {w:World} {vb:Value} {c:qR} (s:SlI .u8 w vb c.2.2.1) (h:xh c):yG w [υ c.1,υ c.2.1,vb] c:=
 ⟨⟨rfl,DZ h.n⟩,⟨rfl,DZ h.t⟩,⟨vb,rfl,SlP.of_ints s (Lx h.byt)⟩,rfl⟩
structure JO (w:World) (b off i:Nat) (c:qR) (vb:Value):Prop where
 c0:w.cell? ⟨b,off+i* 3,none⟩=some (.int .u8 c.1)
 c1:w.cell? ⟨b,off+i* 3+1,none⟩=some (.int .u8 c.2.1)
 c2:w.cell? ⟨b,off+i* 3+2,none⟩=some vb
 sl:SlI .u8 w vb c.2.2.1
 ok:xh c
theorem JO.more {w w':World} {b G i:Nat} {t:qR} {vb:Value} (h:JO w b G i t vb) (m:qa w w') (d:b<w.heap.size):JO w' b G i t vb:=by
 obtain⟨H,I,J,N,O⟩:=h;exact⟨by rw[m.cells b _ d];exact H,by rw[m.cells b _ d];exact I,by rw[m.cells b _ d];exact J,N.keep m,O⟩
theorem Av {w:World} {v:Value} {l:List qR} (h:SlP 3 yG w v l): ∃d cap,v= δ d l.length cap/\(l.length:Int)<=9223372036854775807/\ ∀i,i<l.length-> ∃b G vb,d=some ⟨b,G,none⟩/\b<w.heap.size/\JO w b G i (l.getD i xt) vb:=by
 obtain⟨d,cap,O,U,Y,_⟩:=h;refine⟨d,cap,O,U,λi hi=> ?_⟩;obtain⟨b,G,cs,e,aa,ac,H,ad⟩:=Y i hi;have e0:=H 0 τ;have I:=H 1 τ;have J:=H 2 τ;have N:l.getD i xt=l[i]:=by simp[hi]
 rw[N];obtain⟨vb,rfl,ae,ab⟩:=CU ad ac;simp at e0 I J;exact⟨b,G,vb,e,aa,e0,I,J,ae,ab⟩
def jt (c:qR):Bool:=decide (c.1<=31/\c.2.2.1.length%4=0/\c.2.2.1.length<=196)
theorem xS {w:World} {vb:Value} (c:qR) (N:SlI .u8 w vb c.2.2.1) (U:c.2.2.1.length<=1000000):
  Calls prog 260 #[θ #[υ c.1,υ c.2.1,vb]] w λe w'=>e= .returned (μ (jt c))/\qa w w':=by
 obtain⟨k,n,b,⟨⟩⟩:=c;simp only at *;obtain⟨O,J,rfl,_⟩:=N;have H:=qa.alloc w (.cells #[υ k,υ n,δ O b.length J] 291);by_cases h1:k<=31
 ·by_cases h2:b.length%4=0
  ·by_cases h3:b.length<=196
   ·have d:jt (k,n,b,())=true:=by unfold jt;simp[h1,h2,h3]
    have G:=κ d;clear d;have I:((b.length:Int)).tmod 4=0:=by rw[Int.tmod_eq_emod_of_nonneg τ];omega
    go_enter func260,ntmps260
    go_wp2
    all_goals (go_ret;exact⟨by rw[G.o];first | rfl | exact jf (decide_eq_true τ) | exact jf (decide_eq_false τ),H⟩)
   ·have d:jt (k,n,b,())=false:=by unfold jt;simp[h3]
    have G:=κ d;clear d;have I:((b.length:Int)).tmod 4=0:=by rw[Int.tmod_eq_emod_of_nonneg τ];omega
    go_enter func260,ntmps260
    go_wp2
    all_goals (go_ret;exact⟨by rw[G.o];first | rfl | exact jf (decide_eq_true τ) | exact jf (decide_eq_false τ),H⟩)
  ·have d:jt (k,n,b,())=false:=by unfold jt;simp[h2]
   have G:=κ d;clear d;have I: ¬((b.length:Int)).tmod 4=0:=by rw[Int.tmod_eq_emod_of_nonneg τ];omega
   go_enter func260,ntmps260
   go_wp2
   all_goals (go_ret;exact⟨by rw[G.o];first | rfl | exact jf (decide_eq_true τ) | exact jf (decide_eq_false τ),H⟩)
 ·have d:jt (k,n,b,())=false:=by unfold jt;simp[h1]
  have G:=κ d;clear d
  go_enter func260,ntmps260
  go_wp2
  all_goals (go_ret;exact⟨by rw[G.o];first | rfl | exact jf (decide_eq_true τ) | exact jf (decide_eq_false τ),H⟩)
theorem xO {w:World} {cs:Array Value} {t B:Nat} (d:B=w.heap.size): ∀j u,cs.toList[j]? =some u->(w.alloc (.cells cs t)).cell? ⟨B,j,none⟩=some u:=by
 intro j u h;subst d;exact qb (qk w _) j (by simpa using h)
theorem kC {α:Type} (l:List α) (j:Nat) (d:α) (h:j<l.length):l.take (j+1)=l.take j++[l.getD j d]:=by
 rw[List.take_add_one,List.getElem?_eq_getElem h];simp[h]
end
section
open Go.RowKit
def chB (c:qR):List Int:=qx (128+c.1) 1++(qx c.2.1 1++(qx ((c.2.2.1.length:Int)/4) 2++c.2.2.1))
def flC (l:List qR):List Int:=l.flatMap chB
def szC (l:List qR):Nat:=(l.map λc=>4+c.2.2.1.length).sum
theorem YT (c:qR):(chB c).length=4+c.2.2.1.length:=by
 unfold chB;simp[qI];omega
theorem YS (l:List qR):(flC l).length=szC l:=by
 induction l with
 | nil=>rfl
 | cons c l ih=>
  have e:flC (c::l)=chB c++flC l:=rfl;have d:szC (c::l)=4+c.2.2.1.length+szC l:=by simp[szC]
  rw[e,d,List.length_append,YT,ih]
theorem CN (l:List qR) (j:Nat) (h:j<l.length):flC (l.take (j+1))=flC (l.take j)++chB (l.getD j xt):=by
 unfold flC;rw[kC l j xt h,List.flatMap_append];simp
theorem Xh (l:List qR) (j:Nat) (h:j<l.length):szC (l.take (j+1))=szC (l.take j)+(4+(l.getD j xt).2.2.1.length):=by
 unfold szC;rw[kC l j xt h,List.map_append,List.sum_append];simp
theorem Al (l:List qR) (j:Nat):szC (l.take j)<=szC l:=by
 conv=>rhs;rw[<-List.take_append_drop j l]
 unfold szC;rw[List.map_append,List.sum_append];omega
def kg (l:List qR):List Int×Int:=if l.all jt=false then ([],1) else if 200<szC l then ([],4) else (flC l,0)
theorem zN (c:qR):jt c=true↔c.1<=31/\c.2.2.1.length%4=0/\c.2.2.1.length<=196:=by unfold jt;simp
theorem PZ {l:List qR} {i:Nat} (hi:i<l.length) (h:jt (l.getD i xt)=false):kg l=([],1):=by
 unfold kg;rw[if_pos];rw[List.all_eq_false];exact⟨l.getD i xt,by simp[hi],by rw[h];simp⟩
theorem Da {l:List qR} (h: ∀i,i<l.length->jt (l.getD i xt)=true):l.all jt=true:=by
 rw[List.all_eq_true];intro c d;obtain⟨i,hi,rfl⟩:=List.mem_iff_getElem.1 d;have:=h i hi
 simpa [hi] using this
theorem DN (v:Value) (l:List qR) (w:World) (sl:SlP 3 yG w v l) (bn:l.length<=100000) (ac: ∀i,i<l.length->(l.getD i xt).2.2.1.length<=1000000):
  Calls prog 206 #[v] w λe w'=> ∃vx,e= .returned (.tuple #[vx,ι (kg l).2])/\SlI .u8 w' vx (kg l).1/\qa w w'/\ ∀b,vx.ownBlock=some b->w.heap.size<=b:=by
 obtain⟨bu,cap,rfl,bo,U⟩:=Av sl;clear sl
 go_enter func206,ntmps206
 go_wp2
 go_loopw [4,12] (λs i wr=> ∃j:Nat,j<=l.length/\i= ι j/\s= ι (szC (l.take j):Nat)/\szC (l.take j)<=200* j/\(∀i,i<j->jt (l.getD i xt)=true)/\qa w wr) (λ_ i _=>l.length-(intOf i).toNat)
 case atStart=>exact⟨0,τ,rfl,rfl,by simp[szC],λi hi=>by omega,qa.refl _⟩
 case round=>
  obtain⟨j,G,rfl,rfl,aK,O,d⟩:=hrel;by_cases hlt:j<l.length
  ·obtain⟨b,bd,vb,rfl,H,N⟩:=U j hlt;have bt:=κ N;obtain⟨ar,c1,c2,Y,aD⟩:=N.more d H;have aX:(j:Int)<(l.length:Int):=by omega
   have aF:=κ (Y.keep (qa.alloc wr (.cells #[υ (l.getD j xt).1,υ (l.getD j xt).2.1,vb] 291)));obtain⟨aO,au,rfl,_⟩:=Y;have aa:=κ (Xh l j hlt);have av:=ac j hlt;have J:=κ (λh=>PZ (l:=l) hlt h);have ae:=κ O
   have aR:Hid (∀b,jt (l.getD j xt)=b->b=true->(l.getD j xt).2.2.1.length<=196/\ ∀i,i<j+1->jt (l.getD i xt)=true):=κ (λb e h=>by
    subst e;refine⟨((zN _).1 h).2.2,λi hi=> ?_⟩;by_cases e:i<j
    ·exact ae.o i e
    ·obtain rfl:i=j:=by omega
     exact h)
   clear U N O ac;generalize aW:l.getD j xt=c at *;clear aW;generalize szC (l.take j)=z at *;cases I:jt c with
   | true=>
    obtain⟨bj,aC⟩:=aR.o true I rfl;have aQ:=κ aC;clear aC
    go_wp2_with (go_at_call 260;refine(xS c aF.o av).mono ?_;rintro e w6 ⟨rfl,ad⟩;rw[I];have ah:=(d.al _).trans ad;have bv:=β2 (qc ad (qk wr _)))
    go_roundw
    case rel=>exact⟨j+1,τ,by go_num,by rw[aa.o];go_num,by rw[aa.o];omega,aQ.o,ah⟩
    case measure=>simp[intOf];omega
   | false=>
    have G:=J.o I
    go_wp2_with (go_at_call 260;refine(xS c aF.o av).mono ?_;rintro e w6 ⟨rfl,ad⟩;rw[I];have ah:=(d.al _).trans ad)
    refine bodyPost_ret (v:= .tuple #[δ none 0 0,ι 1]) (by simp[results,results206,go_sem]) rfl ?_;exact⟨_,by rw[G],by rw[G];exact SlI.nil _ _,ah,λb H=>by cases H⟩
  ·obtain rfl:j=l.length:=by omega
   rw[List.take_length] at *;have ay:=Da O;by_cases h200:200<szC l
   ·have G:kg l=([],4):=by unfold kg;rw[if_neg (by rw[ay];simp),if_pos h200]
    have J:=κ G;have aS:(200:Int)<(szC l:Int):=by omega
    clear G U ac O;go_wp2;refine bodyPost_ret (v:= .tuple #[δ none 0 0,ι 4]) (by simp[results,results206,go_sem]) rfl ?_;exact⟨_,by rw[J.o],by rw[J.o];exact SlI.nil _ _,d,λb H=>by cases H⟩
   ·have G:kg l=(flC l,0):=by unfold kg;rw[if_neg (by rw[ay];simp),if_neg h200]
    have J:=κ G;have aS: ¬(200:Int)<(szC l:Int):=by omega
    have ae:=κ O;clear G ac O;go_wp2;have aU:=wT wr;have aT:=d.al (.cells #[δ none 0 0] 204);have aV:=d.size;generalize bk:wr.heap.size=W at *
    go_loopw [30] (λi wr=> ∃j:Nat,j<=l.length/\i= ι j/\(∃v,jX wr W v (flC (l.take j)))/\qa w wr) (λi _=>l.length-(intOf i).toNat)
    case atStart=>exact⟨0,τ,rfl,⟨_,aU⟩,aT⟩
    case round=>
     obtain⟨j,G,rfl,⟨v,I⟩,d⟩:=hrel;by_cases hlt:j<l.length
     ·obtain⟨b,bd,vb,rfl,H,N⟩:=U j hlt;obtain⟨ar,c1,c2,Y,aD⟩:=N.more d H;have aX:(j:Int)<(l.length:Int):=by omega
      have ax:=CN l j hlt;have aK:(flC (l.take j)).length<=200:=by rw[YS];have:=Al l j;omega
      have aE:=(zN _).1 (ae.o j hlt);have an:=κ ax;have aa:=κ Y;have ao:=κ N.sl;obtain⟨aO,au,rfl,_⟩:=Y;clear U N ax;generalize l.getD j xt=c at *;obtain⟨k,n,q,⟨⟩⟩:=c;simp only at ar c1 c2 aE;generalize flC (l.take j)=acc at *;obtain⟨⟨aY,bm⟩,⟨aZ,ba⟩,bp⟩:=aD;obtain⟨bq,br,bs⟩:=aE;change 0<=k at aY;change 0<=n at aZ;change n<=255 at ba;change Hid (SlI .u8 wr _ q) at aa;change Hid (SlI .u8 w _ q) at ao;change Hid (_=acc++chB (k,n,q,())) at an;have az:0<=128+k/\128+k<=255:=by omega
      have aA:0<=n/\n<=255:=by omega
      have aB:0<=(q.length:Int)/4/\(q.length:Int)/4<=65535:=by omega
      have aL:(acc++qx (128+k) 1).length<=1000000:=by rw[List.length_append,qI _ _ ζ];omega
      have aM:(acc++qx (128+k) 1++qx n 1).length<=1000000:=by rw[List.length_append,List.length_append,qI _ _ ζ,qI _ _ ζ];omega
      have aN:(acc++qx (128+k) 1++qx n 1++qx ((q.length:Int)/4) 2).length+q.length<=10000000:=by rw[List.length_append,List.length_append,List.length_append,qI _ _ ζ,qI _ _ ζ,qI _ _ ζ];omega
      have bl:((q.length:Int)).tdiv 4=(q.length:Int)/4:=Int.tdiv_eq_ediv_of_nonneg τ;have ag:=κ (And.intro aL (And.intro aM aN));have af:=κ (And.intro az (And.intro aA aB));clear aL aM aN az aA aB;have ap:=κ (WrK.new (.cells #[υ k,υ n,δ aO q.length au] 291) I d aV);have aw:acc++qx (128+k) 1++qx n 1++qx ((q.length:Int)/4) 2++q=acc++chB (k,n,q,()):=by unfold chB;simp only[List.append_assoc]
      have aP:=κ aw;clear aw
      go_wp2_with first | (go_at_call 93;((with_reducible refine(wi ap.o.wr (128+k) af.o.1 τ).mono ?_);rintro e w6 ⟨rfl,aG⟩;obtain⟨am,ai⟩:=ap.o.wrote aG;have bg:=β1 ai.keep;clear aG)) | (go_at_call 93;((with_reducible refine(wi ai.wr n af.o.2.1 ag.o.1).mono ?_);rintro e bz ⟨rfl,aH⟩;obtain⟨bw,aj⟩:=ai.wrote aH;have bh:=β2 aj.keep;clear aH)) | (go_at_call 94;(go_call ua aj.wr ((q.length:Int)/4) af.o.2.2 ag.o.2.1 as e w8 ⟨rfl,aI⟩;obtain⟨bx,ab⟩:=aj.wrote aI;have bi:=β2 ab.keep;have bf:=ao.o.keep ab.more;clear aI)) | (go_at_call 96;(go_call uU ab.wr _ _ bf ag.o.2.2 as e w9 ⟨rfl,aJ⟩;obtain⟨v9,aq⟩:=ab.wrote aJ;clear aJ))
      go_roundw
      case rel=>exact⟨j+1,τ,by go_num,⟨v9,by rw[an.o,<-aP.o];exact aq.wr⟩,aq.more⟩
      case measure=>simp[intOf];omega
     ·obtain rfl:j=l.length:=by omega
      rw[List.take_length] at I;have aK:(flC l).length<=200:=by rw[YS];omega
      clear U
      go_wp2_with (go_at_call 97;refine(gf I τ).mono ?_;rintro e w6 ⟨am,rfl,ak,bb⟩;have be:=κ (SlI.of_owns ak τ);have bc:=κ (λ(b:Nat) (H:am.ownBlock=some b)=>Nat.le_trans d.size (jD ak H));clear ak)
      refine bodyPost_ret (v:= .tuple #[am,ι 0]) (by simp[results,results206,go_sem]) rfl ?_;exact⟨_,by rw[J.o],by rw[J.o];exact be.o,d.trans bb,bc.o⟩
end
section
open Go.RowKit
def xe (b:List Int):List Int×Bool:=
 if b=[] then ([],false) else
  let n:=b.getD (b.length-1) 0
  if n=0∨ ¬n%4=0∨(b.length:Int)<n then ([],false) else (b.take (b.length-n.toNat),true)
theorem DD {w:World} {v:Value} {b:List Int} (Y:SlI .u8 w v b) (U:Byt b):
  Calls prog 303 #[v] w λe w'=>(∃v',e= .returned (.tuple #[v',μ (xe b).2])/\SlI .u8 w v' (xe b).1/\ ∀g,v'.ownBlock=some g->v.ownBlock=some g)/\w'=w:=by
 have H:=κ Y;obtain⟨ar,cap,rfl,ae,J,af,ag,N⟩:=Y;by_cases hn:b=[]
 ·subst hn;have G:xe []=([],false):=rfl;have d:=κ G;clear G H N
  go_enter func303,ntmps303
  go_wp2;refine bodyPost_ret (v:= .tuple #[δ none 0 0,false]) (by simp[results,results303,go_sem]) rfl ?_;exact⟨⟨_,rfl,SlI.nil _ _,λg h=>by cases h⟩,rfl⟩
 ·have aj:0<b.length:=List.length_pos_iff.2 hn;obtain⟨I,aa,rfl,ak,ah⟩:=J (b.length-1) τ;have ab:=U (b.length-1);have ai:((b.length:Int)-1)=((b.length-1:Nat):Int):=by omega
  have aq:((b.length:Int)-1).toNat=b.length-1:=by omega
  have O: ∀n,b.getD (b.length-1) 0=n->xe b=if n=0∨ ¬n%4=0∨(b.length:Int)<n then ([],false) else (b.take (b.length-n.toNat),true):=λn e=>by
   unfold xe;rw[if_neg hn];simp only[e]
  have d:=κ (O _ rfl);clear O J U N hn;generalize b.getD (b.length-1) 0=n at *;obtain⟨ac,al⟩:=ab;have ap:n.tmod 4=n%4:=Int.tmod_eq_emod_of_nonneg ac;have ad:n=0∨(¬n=0/\ ¬n%4=0)∨(¬n=0/\n%4=0/\(b.length:Int)<n)∨(¬n=0/\n%4=0/\ ¬(b.length:Int)<n):=by omega
  rcases ad with h | ⟨h,h'⟩ | ⟨h,h',h''⟩ | ⟨h,h',h''⟩
  ·have G:xe b=([],false):=by rw[d.o,if_pos (Or.inl h)]
   clear d;have d:=κ G;clear G;subst h
   go_enter func303,ntmps303
   go_wp2;refine bodyPost_ret (v:= .tuple #[δ none 0 0,false]) (by simp[results,results303,go_sem]) rfl ?_;exact⟨⟨δ none 0 0,by rw[d.o],by rw[d.o];exact SlI.nil _ _,λg h=>by cases h⟩,rfl⟩
  ·have G:xe b=([],false):=by rw[d.o,if_pos (Or.inr (Or.inl h'))]
   clear d;have d:=κ G;clear G
   go_enter func303,ntmps303
   go_wp2;refine bodyPost_ret (v:= .tuple #[δ none 0 0,false]) (by simp[results,results303,go_sem]) rfl ?_;exact⟨⟨δ none 0 0,by rw[d.o],by rw[d.o];exact SlI.nil _ _,λg h=>by cases h⟩,rfl⟩
  ·have G:xe b=([],false):=by rw[d.o,if_pos (Or.inr (Or.inr h''))]
   clear d;have d:=κ G;clear G
   go_enter func303,ntmps303
   go_wp2;refine bodyPost_ret (v:= .tuple #[δ none 0 0,false]) (by simp[results,results303,go_sem]) rfl ?_;exact⟨⟨δ none 0 0,by rw[d.o],by rw[d.o];exact SlI.nil _ _,λg h=>by cases h⟩,rfl⟩
  ·have G:xe b=(b.take (b.length-n.toNat),true):=by rw[d.o,if_neg τ]
   clear d;have d:=κ G;clear G;obtain⟨m,rfl⟩: ∃m:Nat,n=m:=⟨n.toNat,τ⟩;have am:(0:Int)<=(b.length:Int)-(m:Int):=by omega
   have an:(b.length:Int)-(m:Int)<=(cap:Int):=by omega
   have ao:((b.length:Int)-(m:Int)).toNat=b.length-m:=by omega
   go_enter func303,ntmps303
   go_wp2;refine bodyPost_ret (v:= .tuple #[δ (some ⟨I,aa,none⟩) (b.length-m) cap,true]) (by simp[results,results303,go_sem]) rfl ?_;exact⟨⟨δ (some ⟨I,aa,none⟩) (b.length-m) cap,by rw[d.o],by rw[d.o];exact H.o.take _ τ,λg h=>h⟩,rfl⟩
end
section
open Go.RowKit
theorem AG: ∀m:Fin 256,bits .and .u8 (m.val:Int) 31=(m.val:Int)%32/\bits .and .u8 (m.val:Int) 32=if (m.val:Int)%64<32 then 0 else 32:=of_decide_eq_true ξ
theorem Nk {n:Int} (h:0<=n/\n<=255):bits .and .u8 n 31=n%32:=by
 obtain⟨m,rfl⟩:=Int.eq_ofNat_of_zero_le h.1;exact(AG ⟨m,τ⟩).1
theorem Nj {n:Int} (h:0<=n/\n<=255):(bits .and .u8 n 32 != 0)= !decide (n%64<32):=by
 obtain⟨m,rfl⟩:=Int.eq_ofNat_of_zero_le h.1;rw[(AG ⟨m,τ⟩).2];simp only;by_cases e:(m:Int)%64<32
 ·rw[if_pos e];simp[e]
 ·rw[if_neg e];simp;omega
def zb (s:RdS):(Int×Int×Int)×RdS:=((num (tkB s.1 1),num (tkB (tkS s 1).1 1),num (tkB (tkS (tkS s 1) 1).1 2)),tkS (tkS (tkS s 1) 1) 2)
def ug (f:Int) (s:RdS):RdS:=if f<128∨191<f then wrS s 2 else s
def vK (f t n:Int) (s:RdS):qR×RdS:=
 if f%64<32 then ((f%32,t,tkB s.1 (4* n),()),tkS s (4* n))
 else ((f%32,t,(xe (tkB s.1 (4* n))).1,()),if (xe (tkB s.1 (4* n))).2=false∨ ¬(tkS s (4* n)).1=[] then wrS (tkS s (4* n)) 2 else tkS s (4* n))
def qQ (s:RdS):qR×RdS:=
 vK (zb s).1.1 (zb s).1.2.1 (zb s).1.2.2 (ug (zb s).1.1 (zb s).2)
structure RdK (w0 w:World) (R:Nat) (l:List Int) (e:Int) (B:Nat) (o:Obj) (C:Nat->Prop):Prop where
 rd:qr w R l e C
 away:qg (λb=>b=R) w0 w
 keep:w.heap[B]? =some o
 ne: ¬B=R
theorem RdK.new {w:World} {R:Nat} {l:List Int} {e:Int} {C:Nat->Prop} (o:Obj) (h:qr w R l e C):RdK w (w.alloc o) R l e w.heap.size o C:=
 ⟨h.more (qa.alloc w o),qg.of_more (qa.alloc w o),qk w o,λe=>by obtain⟨v,d,_⟩:=h.blk;have:=ql d;omega⟩
theorem RdK.step {G w w':World} {R:Nat} {l l':List Int} {e d:Int} {B:Nat} {o:Obj} {C:Nat->Prop} (h:RdK G w R l e B o C) (r:qr w' R l' d C) (a:qg (λb=>b=R) w w'):RdK G w' R l' d B o C:=
 ⟨r,h.away.trans a,a.blk h.keep h.ne,h.ne⟩
theorem Ur {b:List Int} (h:Byt b):Byt (xe b).1:=by
 unfold xe;split
 ·exact xf
 ·simp only;split
  ·exact xf
  ·exact h.take _
theorem Wr {w:World} {R:Nat} {s:RdS} {C:Nat->Prop} (h:qr w R s.1 s.2 C):
  Calls prog 279 #[γ R] w λe w'=>(∃vb,e= .returned (θ #[υ (qQ s).1.1,υ (qQ s).1.2.1,vb])/\SlI .u8 w' vb (qQ s).1.2.2.1/\xh (qQ s).1/\ ∀g,vb.ownBlock=some g->w.heap.size<=g)/\qr w' R (qQ s).2.1 (qQ s).2.2 C/\qg (λb=>b=R) w w':=by
 have bS:R<w.heap.size:=by obtain⟨v,ai,_⟩:=h.blk;exact ql ai
 have ag:=RdK.new (.cells #[υ 0,υ 0,()] 291) h.old;have aS:=jI h.byt 1;have aY:=zf s.1 1 ζ;have ax:=zv _ 1 aS aY ζ;have aT:qQ s=vK (zb s).1.1 (zb s).1.2.1 (zb s).1.2.2 (ug (zb s).1.1 (zb s).2):=rfl;have ae:=κ aT;clear aT;obtain⟨L,E⟩:=s;simp only at h ag;have aP:Byt (tkL L 1):=h.byt.drop _;have bC:Byt (tkL (tkL L 1) 1):=aP.drop _;have bc:=zv _ 1 (jI aP 1) (zf (tkL L 1) 1 ζ) ζ;have bd:=zv _ 2 (jI bC 2) (zf (tkL (tkL L 1) 1) 2 ζ) ζ;have aU:zb (L,E)=((num (tkB L 1),num (tkB (tkL L 1) 1),num (tkB (tkL (tkL L 1) 1) 2)),(tkL (tkL (tkL L 1) 1) 2,tkE (tkL (tkL L 1) 1) 2 (tkE (tkL L 1) 1 (tkE L 1 E)))):=rfl;rw[aU] at ae;simp only at ae ax;clear aU aS aY;generalize aZ:num (tkB L 1)=f at *;generalize ba:num (tkB (tkL L 1) 1)=t at *;generalize bb:num (tkB (tkL (tkL L 1) 1) 2)=n at *;generalize aR:tkL (tkL (tkL L 1) 1) 2=L3 at *;generalize aQ:tkE (tkL (tkL L 1) 1) 2 (tkE (tkL L 1) 1 (tkE L 1 E))=E3 at *;have aV:0<=f/\f<=255:=by have:=ax;simp at this;omega
 have bF:0<=t/\t<=255:=by have:=bc;simp at this;omega
 have bT:0<=n/\n<=65535:=by have:=bd;simp at this;omega
 have bR:=Nk aV;have bB:=Nj aV;clear ax bc bd
 have bG:Hid (∀O vb q (G:RdS),RdK w O R G.1 G.2 w.heap.size (.cells #[υ 0,υ 0,()] 291) (λg=>C g/\g<w.heap.size)->qQ (L,E)=((f%32,t,q,()),G)->SlI .u8 O vb q->Byt q->(∀g,vb.ownBlock=some g->w.heap.size+1<=g)->(∃vb',Ending.returned (θ #[υ (f%32),υ t,vb])= .returned (θ #[υ (qQ (L,E)).1.1,υ (qQ (L,E)).1.2.1,vb'])/\SlI .u8 (((O.setCell ⟨w.heap.size,0,none⟩ (υ (f%32))).setCell ⟨w.heap.size,1,none⟩ (υ t)).setCell ⟨w.heap.size,2,none⟩ vb) vb' (qQ (L,E)).1.2.2.1/\xh (qQ (L,E)).1/\ ∀g,vb'.ownBlock=some g->w.heap.size<=g)/\qr (((O.setCell ⟨w.heap.size,0,none⟩ (υ (f%32))).setCell ⟨w.heap.size,1,none⟩ (υ t)).setCell ⟨w.heap.size,2,none⟩ vb) R (qQ (L,E)).2.1 (qQ (L,E)).2.2 C/\qg (λb=>b=R) w (((O.setCell ⟨w.heap.size,0,none⟩ (υ (f%32))).setCell ⟨w.heap.size,1,none⟩ (υ t)).setCell ⟨w.heap.size,2,none⟩ vb)):=κ (by
  intro O vb q G X bA bJ ah aW;have U:qg (λb=>b=w.heap.size) O (((O.setCell ⟨w.heap.size,0,none⟩ (υ (f%32))).setCell ⟨w.heap.size,1,none⟩ (υ t)).setCell ⟨w.heap.size,2,none⟩ vb):=(((qg.refl (λb=>b=w.heap.size) O).set (p:=⟨w.heap.size,0,none⟩) rfl _).set (p:=⟨w.heap.size,1,none⟩) rfl _).set (p:=⟨w.heap.size,2,none⟩) rfl _;rw[bA];refine⟨⟨vb,rfl,bJ.off (λb aw e=>by have:=aW b aw;omega) U,⟨by simp only;omega,bF,ah⟩,λg h=>by have:=aW g h;omega⟩, ?_, ?_⟩
  ·exact(X.rd.off U (λe=>X.ne e.symm) (λg bD e=>by have:=bD.2;omega)).mono λg h=>h.1
  ·exact⟨U.os.trans X.away.os,U.tape.trans X.away.tape,U.output.trans X.away.output,Nat.le_trans X.away.size U.size,λk aX bE=>by rw[U.block k (Nat.lt_of_lt_of_le aX X.away.size) τ];exact X.away.block k aX bE⟩)
 obtain⟨⟨d,J⟩,av⟩: ∃S4,ug f (L3,E3)=S4:=⟨_,rfl⟩;rw[av] at ae;have ak:=κ av;clear av
 go_enter func279,ntmps279
 go_upto_region 2 with (first | (go_at_call 52;((with_reducible refine(jP ag.rd).mono ?_);rintro e w6 ⟨rfl,bj,aI⟩;have am:=ag.step bj aI;rw[aZ])) | (go_at_call 52;((with_reducible refine(jP am.rd).mono ?_);rintro e bX ⟨rfl,bk,aJ⟩;have an:=am.step bk aJ;rw[ba])) | (go_at_call 53;(go_call xm an.rd as e w8 ⟨rfl,bl,aK⟩;have ao:=an.step bl aK;rw[bb];rw[aR,aQ] at ao)))
 have af:=κ ao;clear ag am an ao bj bk bl aI aJ aK aZ ba bb aR aQ h;obtain⟨q,be⟩:=ν (decide (f<128∨191<f));have Y:=κ be;clear be
 go_cut [20] from 15 to 51 (λv H=>v= μ q/\w8=H)
 case first=>
  by_cases ai:f<128
  ·go_wp2;go_meet;exact⟨by rw[<-Y.o];simp[ai],rfl⟩
  ·by_cases h2:191<f
   ·go_wp2;go_meet;exact⟨by rw[<-Y.o];simp[h2],rfl⟩
   ·go_wp2;go_meet;exact⟨by rw[<-Y.o];simp[ai,h2],rfl⟩
 case rest=>
 obtain⟨rfl,rfl⟩:=hcut
 go_upto_if 20 with fail
 go_cut [] from 21 to 51 (λH=>RdK w H R d J w.heap.size (.cells #[υ 0,υ 0,()] 291) (λg=>C g/\g<w.heap.size))
 case first=>
  cases q
  ·have ad:Hid ((L3,E3)=(d,J)):=κ (by rw[<-ak.o];exact(if_neg (of_decide_eq_false Y.o)).symm);go_wp2;go_meet;have x:=af.o;rw[show L3=d from congrArg Prod.fst ad.o,show E3=J from congrArg Prod.snd ad.o] at x;exact x
  ·have ad:Hid (wrS (L3,E3) 2=(d,J)):=κ (by rw[<-ak.o];exact(if_pos (of_decide_eq_true Y.o)).symm)
   go_wp2_with ((go_at_call 55;(go_call zn (s:=(L3,E3)) af.o.rd 2 as e w9 ⟨rfl,bm,a9⟩;have N:=κ (af.o.step bm a9);clear bm a9)))
   go_meet;have x:=N.o;rw[ad.o] at x;exact x
 case rest=>
 have N:=κ hcut;clear hcut af ak Y
 go_upto_region 5 with ((go_at_call 56;(go_call QQ (4* n) N.o.rd as e w10 ⟨bK,rfl,ay,bh,aH⟩;have aa:=κ (N.o.step bh aH);have aB:=κ (SlI.of_owns ay (by have:=Vs d (4* n);have:=N.o.rd.small;omega));have aL:Hid (∀g,bK.ownBlock=some g->w.heap.size+1<=g):=κ (λg h=>Nat.le_trans (Nat.lt_of_lt_of_le (ql N.o.keep) (Nat.le_refl _)) (jD ay h));have aq:=κ (jI N.o.rd.byt (4* n));obtain⟨bU,bM,rfl,_⟩:=id aB.o;clear ay bh aH)))
 obtain⟨p,aA⟩:=ν ((!decide (f%64<32)));rw[aA] at bB;have aF:=κ aA;clear aA N;generalize aO:tkB d (4* n)=B at *;have aD:=κ aO;clear aO
 go_upto_if 30 with fail
 go_cut [6] from 31 to 51 (λv H=> ∃(o:Option Addr) (c:Nat) (q:List Int) (G:RdS),v= δ o q.length c/\SlI .u8 H (δ o q.length c) q/\Byt q/\(∀g,(δ o q.length c).ownBlock=some g->w.heap.size+1<=g)/\RdK w H R G.1 G.2 w.heap.size (.cells #[υ 0,υ 0,()] 291) (λg=>C g/\g<w.heap.size)/\vK f t n (d,J)=((f%32,t,q,()),G))
 case first=>
  cases p
  ·go_wp2;go_meet;exact⟨_,_,_,(tkL d (4* n),tkE d (4* n) J),rfl,aB.o,aq.o,aL.o,aa.o,by unfold vK;rw[if_pos (by have:=aF.o;simpa using this),aD.o];rfl⟩
  ·have aE:Hid (vK f t n (d,J)=((f%32,t,(xe B).1,()),if (xe B).2=false∨ ¬tkL d (4* n)=[] then wrS (tkL d (4* n),tkE d (4* n) J) 2 else (tkL d (4* n),tkE d (4* n) J))):=κ (by unfold vK;rw[if_neg (by have:=aF.o;simpa using this),aD.o];rfl);have bu:=κ (Ur (b:=B) aq.o);obtain⟨bg,az⟩:=ν ((xe B).2);obtain⟨ab,au⟩:=ν (tkL d (4* n));obtain⟨aj,ar⟩:=ν (tkE d (4* n) J);obtain⟨z,bf⟩:=ν (decide (bg=false∨ ¬ab=[]));have al:=κ bf;have aG:=κ (DD aB.o aq.o);rw[az] at aG;rw[au,ar] at aa;rw[az,au,ar] at aE;clear az au ar bf
   go_upto_region 7 with (go_at_call 303;(go_call aG.o as e bp ⟨⟨bW,rfl,bn,aM⟩,rfl⟩;have bv:=κ bn;have aC:=κ (λg h=>aL.o g (aM g h));obtain⟨bV,bN,rfl,_⟩:=bn;clear aM))
   go_cut [42] from 36 to 51 (λv H=>v= μ z/\bp=H)
   case first=>
    cases bg
    ·go_wp2;go_meet;exact⟨by rw[<-al.o];rfl,rfl⟩
    ·go_wp2_with (go_at_call 57;(go_call zl aa.o.rd as e bL ⟨rfl,rfl⟩))
     go_meet;exact⟨by rw[<-al.o];cases ab<;>simp,rfl⟩
   case rest=>
   obtain⟨rfl,rfl⟩:=hcut
   go_upto_if 42 with fail
   go_cut [] from 43 to 51 (λH=> ∃G:RdS,RdK w H R G.1 G.2 w.heap.size (.cells #[υ 0,υ 0,()] 291) (λg=>C g/\g<w.heap.size)/\(if z then wrS (ab,aj) 2 else (ab,aj))=G/\qg (λb=>b=R) bp H)
   case first=>
    cases z
    ·go_wp2;go_meet;exact⟨_,aa.o,rfl,qg.refl _ _⟩
    ·go_wp2_with ((go_at_call 55;(go_call zn (s:=(ab,aj)) aa.o.rd 2 as e bL ⟨rfl,bi,ap⟩;have bw:=κ (aa.o.step bi ap);have bq:=κ ap;clear bi ap)))
     go_meet;exact⟨_,bw.o,rfl,bq.o⟩
   case rest=>
   obtain⟨G,I,ac,a9⟩:=hcut;have N:=κ I;have bs:=κ ac;have br:=κ a9;clear I ac a9;go_wp2;go_meet;exact⟨_,_,_,G,rfl,bv.o.off (λb aw e=>by have:=aC.o b aw;omega) br.o,bu.o,aC.o,N.o,by rw[aE.o,<-bs.o,<-al.o];simp⟩
 case rest=>
 obtain⟨bH,bz,bI,G,rfl,bo,ah,aN,I,ac⟩:=hcut;have bx:=β0 I.keep;have c1:=β1 I.keep;have c2:=β2 I.keep;have bO:=qd I.keep 0;have bP:=qd I.keep 1;have bQ:=qd I.keep 2;have bt:=κ (bG.o _ _ _ _ I (ae.o.trans ac) bo ah aN);clear I ac bo ah aN;go_wp2
 (refine bodyPost_ret (v:= θ #[υ (f%32),υ t,δ bH bI.length bz]) ?rr1 rfl ?_;(case rr1=>(simp[results,results279,go_sem,bx,c1,c2])))
 exact bt.o
end
end Go.Proofs.YtlmllmonabafjaaGreatDoor
