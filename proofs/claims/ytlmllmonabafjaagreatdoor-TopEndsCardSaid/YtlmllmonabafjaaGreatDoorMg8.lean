/- Contracts of the functions that the law reaches, and plain laws; no conditions but those written at each. -/
import Derived.Test.YtlmllmonabafjaaGreatDoorMg7
import Derived.Maps.RangeRun
import Derived.ChangeMaps5
import Derived.Maps.OwnSet
namespace Go.Proofs.YtlmllmonabafjaaGreatDoor
open Go.Value renaming bool->μ,slice->δ,pointer->π,agg->θ
open Go.IntKind renaming i64->ι,u8->υ,u16->φ,u32->ω,i32->χ,u64->ψ
open _root_.Go.Proofs.Tryz
set_option linter.unusedSimpArgs false
set_option maxHeartbeats 8000000
set_option linter.unusedVariables false
open Go.RowKit Go.Lib
set_option maxRecDepth 100000
theorem Bl {w w10 G:World} {R:Nat} {b:Jb} {h:Hd} {H:Option Addr} {cap:Nat} {v':Value} (J:xZ w10 R (δ H b.holds.length cap) b) (U:qa w w10) (ac:R<w.heap.size)
  (I:qg (λk=>(δ H b.holds.length cap).ownBlock=some k) w10 G) (O:zT G (R+1) v' (ue b.holds h)) (ab:v'.ownBlock=(δ H b.holds.length cap).ownBlock∨ ∃g,v'.ownBlock=some g/\w.heap.size<=g):
  PS w (G.setCell ⟨R,2,none⟩ v') R (δ H b.holds.length cap) v' {b with holds:=ue b.holds h}:=by
 have Y:(δ H b.holds.length cap).ownBlock≠some R:=λe=>by have:=(J.row.own_ge e).1;omega
 have aa:v'.ownBlock≠some R:=λe=>by have:=(O.own_ge e).1;omega
 have N:qg (λk=>k=R) G (G.setCell ⟨R,2,none⟩ v'):=(qg.refl (λk=>k=R) G).set (p:=⟨R,2,none⟩) rfl v';refine⟨⟨qB (qp (I.blk J.blk Y) 2 v') rfl,O.away N (λk d x=>aa (by rw[<-x];exact d))⟩, ?_,ab⟩;exact qg.old U ((I.mono λk d=>Or.inr d).trans (N.mono λk d=>Or.inl d)) λk d=>Or.inl d
theorem CG (b:Jb) (ok:JOK b) (R:Nat) (v:Value) (n d x:Int) (bc:xz n) (w:World) (ab:xZ w R v b):
  Calls prog 194 #[γ R,ι n,ι d,ι x] w λbC w'=>bC= .returned (ι (jP b n d x).2)/\ ∃v',PS w w' R v v' (jP b n d x).1:=by
 have bp:Hid (b.room<=b.holds.length∨b.holds.length<=8):=κ (by have:=ok.fits;have:=ok.room;omega);have bF:=uY bc;have bG:=uY ok.hi;obtain⟨bR,bS⟩:=ok.hi;obtain⟨bV,bW⟩:=bc;have bu:=κ ok.bits;have ac:=κ (ab.on (qa.alloc w (.cells #[ι n] 2)));have aM:=qj w (.cells #[ι n] 2);have aT:=κ aM;have ax:=ux b R v _ ac.o ok.hi;have aS:=κ (qa.alloc w (.cells #[ι n] 2));have am: ∀args w,(callFunc 246 args).run prog w= .ok (.enter 246 args) w:=λargs w=>by kernel_rfl
 have bn: ∀args w,(callFunc 247 args).run prog w= .ok (.enter 247 args) w:=λargs w=>by kernel_rfl
 have ao:Hid (ZA 246 #[γ w.heap.size] (λk=>k.1==n) b.holds (w.alloc (.cells #[ι n] 2))):=κ λW' y _ m=>Dp n _ y W' (qc m aM)
 obtain⟨_,_,c2,_,_,_⟩:=ac.o.cells ⟨_,qa.refl _⟩;have bQ:w.heap.size≠R:=λe=>by have:=lt_of_block ab.blk;omega
 obtain⟨G,cap,rfl,bU⟩:=ab.row.shape;obtain⟨bl,aK⟩:=ν (JM b n);obtain⟨Y,aH⟩:=ν (b.begun);rw[aH] at ax;obtain⟨bj,aJ⟩:=ν ((if Y=true then b.hi+1 else 0));rw[aJ] at ax;have bt:=κ ax;have bs:=κ aJ;have an:=κ aH;obtain⟨bg,ba⟩:=ν (yi b.hi b.bits n);have ag:=κ ba;clear ax aJ ba;have aR:Hid ((b.holds.any λk=>k.1==n)=bl):=κ aK;have ai:=κ aK;have br:Hid ((δ G b.holds.length cap).ownBlock≠some w.heap.size):=κ (λe=>by have:=(ab.row.own_ge e).2;omega);have aQ:=κ (lt_of_block ab.blk);have aA:Hid (∀(e:Int) (aC:World),jP b n d x=(b,e)->xZ aC R (δ G b.holds.length cap) b->qa w aC->(Ending.returned (ι e)= .returned (ι (jP b n d x).2)/\ ∃v',PS w aC R (δ G b.holds.length cap) v' (jP b n d x).1)):=κ (λe aC aa ak bD=>by rw[aa];exact⟨rfl,_,PS.keep bD ak⟩);clear ab aM aH aK
 go_enter func194,ntmps194
 go_upto_block 0 with (go_at_call 172;(go_call bt.o as bP w1 ⟨rfl,rfl⟩))
 go_cut [] from 21 to 82 (λN=>xZ N R (δ G b.holds.length cap) b/\N.heap[w.heap.size]? =some (.cells #[ι n] 2)/\qa w N/\jP b n d x=({b with holds:=ue b.holds (n,d,x)},0)/\ ¬b.room<=b.holds.length)
 case first=>
  cases bl
  ·go_upto_region 5 with (go_at_call 173;(go_call xt _ _ (λk=>k.1==n) am b.holds _ (R+1) _ ac.o.row ao.o as aG w2 ⟨rfl,J⟩;rw[aR.o];have O:=κ (ac.o.on J);have au:=κ (qc J aT.o);have aq:=κ (aS.o.trans J);clear J))
   clear ao c2 am;have bA:=λ(x:qt w2)=>β0 (qc x.h au.o)
   have c4: ∀x:qt w2,x.w'.cell? ⟨R,4,none⟩=some (ι b.hi):=λx=>(O.o.cells x).2.2.2.2.1
   have c5: ∀x:qt w2,x.w'.cell? ⟨R,5,none⟩=some (ψ b.bits):=λx=>(O.o.cells x).2.2.2.2.2
   have aN:Hid (∀W:World,Calls prog 248 #[θ #[ι b.hi,ψ b.bits],ι n] W λe w'=>e= .returned (μ bg)/\qa W w'):=κ λW=>by rw[<-ag.o];exact FX b.hi b.bits n bG bF bu.o W
   obtain⟨q,be⟩:=ν ((Y&&bg));have ah:=κ be;clear be
   go_cut [21] from 28 to 82 (λv N=>v= μ q/\qa w2 N)
   case first=>
    cases Y
    all_goals
     refine qD w2 (qa.refl _) ξ ξ ?_
     repeat (go_big_quiet_step ((go_at_call 248;with_reducible exact j6 (aN.o _))))
     refine wpQuiet_nil ?_;intro _ aL;obtain⟨bm,rfl⟩:=aL;have aj:=κ bm.h;generalize bm.w'=w5 at *;go_wp2;go_meet;exact⟨by rw[<-ah.o];simp,aj.o⟩
   case rest=>
   obtain⟨rfl,aw⟩:=hcut;have af:=κ (O.o.on aw);have aU:=κ (qc aw au.o);have aj:=κ (aq.o.trans aw);clear aw bA c4 c5 O au aq aN;cases q
   ·have bB:=β0 aU.o;obtain⟨aB,bf⟩:=ν ((Y&&decide (n<bj)));have ap:=κ bf;clear bf;have aE:Hid ((Y&&decide (n<b.hi+1))=aB):=κ (by rw[<-ap.o,<-bs.o];cases Y<;>simp)
    go_upto_region 7 with fail
    go_cut [37] from 38 to 82 (λv N=>v= μ aB/\wc=N)
    case first=>
     cases Y
     ·go_wp2;go_meet;exact⟨by rw[<-ap.o];rfl,rfl⟩
     ·by_cases hl:n<bj
      ·go_wp2;go_meet;exact⟨by rw[<-ap.o];simp[hl],rfl⟩
      ·go_wp2;go_meet;exact⟨by rw[<-ap.o];simp[hl],rfl⟩
    case rest=>
    obtain⟨rfl,rfl⟩:=hcut;cases aB
    ·go_upto_region 9 with fail
     have bz: ∀x:qt wc,x.w'.cell? ⟨R,0,none⟩=some (ι b.room):=λx=>(af.o.cells x).1
     have c2: ∀x:qt wc,x.w'.cell? ⟨R,2,none⟩=some (δ G b.holds.length cap):=λx=>(af.o.cells x).2.2.1
     by_cases hf:b.room<=b.holds.length
     all_goals
      refine qD wc (qa.refl _) ξ ξ ?_
      repeat (go_big_quiet_step (fail))
      refine wpQuiet_nil ?_;intro _ aL;obtain⟨aD,rfl⟩:=aL;have ad:=κ (af.o.on aD.h);have av:=κ (qc aD.h aU.o);have ar:=κ (aj.o.trans aD.h);clear bz c2 bB;generalize aD.w'=w9 at *
     ·have I:=κ (show jP b n d x=(b,8) by unfold jP;rw[ai.o,an.o,ag.o,ah.o,aE.o,if_neg ζ,if_neg ζ,if_pos hf]);go_wp2;go_ret;exact aA.o _ _ I.o ad.o ar.o
     ·go_wp2;go_meet;exact⟨ad.o,av.o,ar.o,by unfold jP;rw[ai.o,an.o,ag.o,ah.o,aE.o,if_neg ζ,if_neg ζ,if_neg τ],τ⟩
    ·have I:=κ (show jP b n d x=(b,9) by unfold jP;rw[ai.o,an.o,ag.o,ah.o,aE.o];rfl);go_wp2;go_ret;exact aA.o _ _ I.o af.o aj.o
   ·have I:=κ (show jP b n d x=(b,10) by unfold jP;rw[ai.o,an.o,ag.o,ah.o];rfl);go_wp2;go_ret;exact aA.o _ _ I.o af.o aj.o
  ·have I:=κ (show jP b n d x=(b,10) by unfold jP;rw[ai.o];rfl)
   go_wp2_with (go_at_call 173;(go_call xt _ _ (λk=>k.1==n) am b.holds _ (R+1) _ ac.o.row ao.o as aG w2 ⟨rfl,J⟩;rw[aR.o];have O:=κ (ac.o.on J);have au:=κ (qc J aT.o);have aq:=κ (aS.o.trans J);clear J))
   go_ret;exact aA.o _ _ I.o O.o aq.o
 case rest=>
 obtain⟨aY,bi,bh,aZ,bE⟩:=hcut;have ad:=κ aY;have av:=κ bi;have ar:=κ bh;have I:=κ aZ;have bq:Hid (b.holds.length<=8):=κ (bp.o.resolve_left τ);obtain⟨_,_,aG,_,_,_⟩:=ad.o.cells ⟨_,qa.refl _⟩;have bo:Hid (ZA 247 #[γ w.heap.size] (λk=>decide (n<k.1)) b.holds wc):=κ λW' y _ m=>Wp n _ y W' (qc m av.o)
 clear aY bi bh aZ bE c2 ao am;have aO:=κ (wJ _ _ (λk=>decide (n<k.1)) bn b.holds _ (R+1) _ ad.o.row bo.o);obtain⟨bI,aI⟩:=ν (Jk (λk=>decide (n<k.1)) b.holds);rw[aI] at aO;have aP:=κ aI;clear aI
 go_upto_region 12 with (go_at_call 231;(go_call aO.o as aX w10 ⟨rfl,ay⟩;have U:=κ (ad.o.on ay);have bv:=κ (qc ay av.o);have aF:=κ (ar.o.trans ay);obtain⟨_,_,aX,_,_,_⟩:=U.o.cells ⟨_,qa.refl _⟩;clear ay aG))
 obtain⟨bX,bb⟩:=ν (decide (bI<0));have bN:=κ bb;clear bb
 go_upto_if 62 with fail
 go_cut [13] from 63 to 82 (λv N=>v= ι (atJ b.holds n:Int)/\w10=N)
 case first=>
  rcases Fx b.holds n with ⟨aa,ak⟩ | ⟨aa,ak⟩
  ·rw[aP.o] at aa;subst aa;have bT: ¬((atJ b.holds n:Nat):Int)<0:=by omega
   go_wp2;go_meet;exact⟨rfl,rfl⟩
  ·rw[aP.o] at aa;subst aa;have O:=κ ak;clear ak;go_wp2;go_meet;exact⟨by rw[O.o],rfl⟩
 case rest=>
 obtain⟨rfl,rfl⟩:=hcut
 go_upto_region 14 with fail
 have bd:(δ G b.holds.length cap).ownBlock≠some R:=λe=>by have:=(U.o.row.own_ge e).1;omega
 have bH:(δ G b.holds.length cap).ownBlock≠some w.heap.size:=br.o;have c2:=λ(x:qz (λk=>(δ G b.holds.length cap).ownBlock=some k) w10)=>β2 (x.h.blk U.o.blk bd)
 have c5:=λ(x:qz (λk=>(δ G b.holds.length cap).ownBlock=some k) w10)=>β0 (x.h.blk bv.o bH)
 clear aX;refine QN (λk=>(δ G b.holds.length cap).ownBlock=some k) w10 14 15 [10,11,12,14] ?_
 refine Nx ?_
 (refine Ql ?_;intro K H)
 have az:qa w10 ((w10.drewN 1).alloc (.cells #[ι n,ι d,ι x] 338)):=(qa.drewN w10 1).al _;have aV:qg (λk=>(δ G b.holds.length cap).ownBlock=some k) w10 ((w10.drewN 1).alloc (.cells #[ι n,ι d,ι x] 338)):=qg.of_more az;refine⟨qi aV,H _ _ ?_⟩;clear H K
 (refine Ql ?_;intro K H)
 have bw:Vh b.holds (n,d,x) (δ G b.holds.length cap) (R+1) ((w10.drewN 1).alloc (.cells #[ι n,ι d,ι x] 338)) w10.heap.size:=⟨U.o.row.more az,by have:=aF.o.size;have:=az.size;have:=aQ.o;omega,by have:=bq.o;omega,qC (w:=w10.drewN 1) rfl,λe=>by have:=(U.o.row.own_ge e).2;omega⟩;refine(Wk b.holds (atJ b.holds n) (Ua _ _) (n,d,x) _ (R+1) _ _ bw).mono ?_;rintro e bM ⟨v',rfl,bL,bx,bJ⟩;have ae:=aV.trans bx;have bk:zT bM (R+1) v' (ue b.holds (n,d,x)):=by
  unfold ue;exact bL
 have bK:v'.ownBlock=(δ G b.holds.length cap).ownBlock∨ ∃g,v'.ownBlock=some g/\w.heap.size<=g:=bJ.elim Or.inl λh=>Or.inr ⟨_,h,by have:=aF.o.size;have:=az.size;omega⟩
 obtain⟨bY,bO,rfl,_⟩:=bk.shape;refine⟨_,rfl,qi ae,H _ _ ?_⟩;clear H K
 (refine Ql ?_;intro K H)
 refine⟨qi ae,H _ _ ?_⟩;clear H K
 iterate 1 (refine qE rfl rfl (qi ae) ?_;intro K H;go_big_quiet_op;go_big_quiet_on)
 have aW:=ae.blk U.o.blk bd;have aB:=qb aW 2 rfl;have bZ:=qd aW 2
 (refine Qe ?_;intro K H)
 refine H _ _ ?_;clear H K;refine qA ?_;go_wp2;go_ret;exact⟨by rw[I.o];rfl,_,by rw[I.o];exact Bl U.o aF.o aQ.o ae bk bK⟩
theorem Ce (L:List Hd) (h:Hd):(ue L h).length=L.length+1:=by
 unfold ue;have:=Ua L h.1;rw[List.length_append,List.length_cons,List.length_take,List.length_drop];omega
theorem Xl (L:List Hd) (h k:Hd):k∈ue L h↔k=h∨k∈L:=by
 unfold ue;rw[List.mem_append,List.mem_cons]
 conv=>rhs;rw[<-List.take_append_drop (atJ L h.1) L,List.mem_append]
 constructor
 ·rintro(a | a | a)
  ·exact Or.inr (Or.inl a)
  ·exact Or.inl a
  ·exact Or.inr (Or.inr a)
 ·rintro(a | a | a)
  ·exact Or.inr (Or.inl a)
  ·exact Or.inl a
  ·exact Or.inr (Or.inr a)
theorem PD (k:Hd) (L:List Hd) (h:Hd):ue (k::L) h=if h.1<k.1 then h::k::L else k::ue L h:=by
 unfold ue atJ;rw[List.findIdx_cons];by_cases e:h.1<k.1
 ·simp[e]
 ·simp[e]
theorem ZU: ∀(L:List Hd) (h:Hd),(L.Pairwise λa c=>a.1<c.1)->(∀k∈L,¬k.1=h.1)->(ue L h).Pairwise λa c=>a.1<c.1
 | [],h,_,_=>by simp[ue,atJ]
 | k::L,h,hp,hn=>by
  rw[List.pairwise_cons] at hp;rw[PD];by_cases e:h.1<k.1
  ·rw[if_pos e,List.pairwise_cons,List.pairwise_cons];refine⟨λc d=> ?_,hp.1,hp.2⟩;rcases List.mem_cons.1 d with rfl | d
   ·exact e
   ·exact Int.lt_trans e (hp.1 c d)
  ·rw[if_neg e,List.pairwise_cons];have:=hn k List.mem_cons_self;refine⟨λc d=> ?_,ZU L h hp.2 λc d=>hn c (List.mem_cons_of_mem _ d)⟩;rcases(Xl L h c).1 d with rfl | d
   ·omega
   ·exact hp.1 c d
theorem GF (b:Jb) (n:Int):JM b n=false↔ ∀k∈b.holds,¬k.1=n:=by
 unfold JM;rw[List.any_eq_false];constructor
 ·intro h k d e;exact h k d (by simpa using e)
 ·intro h k d e;exact h k d (by simpa using e)
theorem Uz (b:Jb) (n d x:Int):((jP b n d x).1=b/\(jP b n d x).2≠0)∨
  (jP b n d x=({b with holds:=ue b.holds (n,d,x)},0)/\JM b n=false/\(b.begun=true->b.hi<n)/\(b.holds.length:Int)<b.room):=by
 unfold jP;by_cases h1:(JM b n||(b.begun&&yi b.hi b.bits n))=true
 ·rw[if_pos h1];exact Or.inl ⟨rfl,show (10:Int)≠0 by decide⟩
 ·rw[if_neg h1];by_cases h2:(b.begun&&decide (n<b.hi+1))=true
  ·rw[if_pos h2];exact Or.inl ⟨rfl,show (9:Int)≠0 by decide⟩
  ·rw[if_neg h2];by_cases h3:b.room<=b.holds.length
   ·rw[if_pos h3];exact Or.inl ⟨rfl,show (8:Int)≠0 by decide⟩
   ·rw[if_neg h3];refine Or.inr ⟨rfl, ?_, ?_,τ⟩
    ·cases hs:JM b n with
     | false=>rfl
     | true=>rw[hs] at h1;simp at h1
    ·intro G;rw[G] at h2;simp at h2;omega
theorem Eu {b:Jb} (d:JOK b) {n H x:Int} (O:xz n) (U:xz H):JOK (jP b n H x).1:=by
 rcases Uz b n H x with ⟨h,_⟩ | ⟨h,J,N,Y⟩
 ·rw[h];exact d
 ·rw[h];refine⟨d.room,d.wait, ?_,λk G=> ?_,ZU _ _ d.rise ((GF b n).1 J),d.hi,d.bits,λI k G=> ?_⟩
  ·show ((ue b.holds (n,H,x)).length:Int)<=b.room;rw[Ce];omega
  ·rcases(Xl _ _ k).1 G with rfl | G
   ·exact⟨O,U⟩
   ·exact d.nums k G
  ·rcases(Xl _ _ k).1 G with rfl | G
   ·exact N I
   ·exact d.over I k G
theorem VL {b:Jb} (d:JOK b) {h:Hd} {T:List Hd} (G:b.holds=h::T):JOK (xT b):=by
 have O:=d.nums h (by rw[G];exact List.mem_cons_self);have I:=d.rise;rw[G,List.pairwise_cons] at I;have e:xT b={b with holds:=T,begun:=true,hi:=(wK b h.1).1,bits:=(wK b h.1).2}:=by unfold xT;rw[G]
 have J:(wK b h.1).1=h.1:=by
  unfold wK;split
  ·rename_i N;rw[QD];have:=d.over N h (by rw[G];exact List.mem_cons_self);omega
  ·rfl
 rw[e];refine⟨d.room,d.wait, ?_,λk H=>d.nums k (by rw[G];exact List.mem_cons_of_mem _ H),I.2, ?_, ?_,λ_ k H=> ?_⟩
 ·have:=d.fits;rw[G,List.length_cons] at this;show ((T.length:Nat):Int)<=b.room;omega
 ·show xz (wK b h.1).1;rw[J];exact O.1
 ·show U64 (wK b h.1).2;unfold wK;split
  ·exact VG _ _ _ d.bits
  ·exact(show U64 1 from ⟨ζ,ζ⟩)
 ·show (wK b h.1).1<k.1;rw[J];exact I.1 k H
def yD (b:Jb) (now:Int):Jb×Int×Int×Bool:=match b.holds with
 | []=>(b,0,0,false)
 | h::_=>if xa b now then (xT b,h.1,h.2.2,true) else (b,0,0,false)
theorem FJ (b:Jb) (af:JOK b) (R:Nat) (v:Value) (d:Int) (ak:xz d) (w:World) (N:xZ w R v b):
  Calls prog 133 #[γ R,ι d] w λe w'=>e= .returned (.tuple #[ι (yD b d).2.1,ι (yD b d).2.2.1,μ (yD b d).2.2.2])/\ ∃v',PS w w' R v v' (yD b d).1:=by
 have ab:=κ N;have ac:=κ (Z7 b af R v d ak w N);cases hr:xa b d with
 | false=>
  have J:yD b d=(b,0,0,false):=by
   unfold yD;cases b.holds with
   | nil=>rfl
   | cons h T=>simp only[hr];rfl
  rw[J];have U:=κ hr;clear J hr N
  go_enter func133,ntmps133
  go_wp2_with (go_at_call 119;(go_call ac.o as e w1 ⟨rfl,G⟩;rw[U.o];have H:=κ G;clear G))
  refine bodyPost_ret (v:= .tuple #[ι 0,ι 0,false]) (by simp[results,results133,go_sem]) rfl ?_;exact⟨rfl,v,PS.keep H.o (ab.o.on H.o)⟩
 | true=>
  obtain⟨h,T,I⟩: ∃h T,b.holds=h::T:=by
   cases I:b.holds with
   | nil=>unfold xa at hr;rw[I] at hr;cases hr
   | cons h T=>exact⟨h,T,rfl⟩
  have J:yD b d=(xT b,h.1,h.2.2,true):=by
   unfold yD;rw[I];simp only[hr];rfl
  rw[J];have U:=κ hr;have ah:=κ I;clear J hr N I
  go_enter func133,ntmps133
  go_wp2_with (first | (go_at_call 119;(go_call ac.o as e w1 ⟨rfl,G⟩;rw[U.o];have H:=κ G;have ag:=κ (ab.o.on G);clear G)) | (go_at_call 178;(go_call Z9 b h T ah.o af R v _ ag.o as e w2 ⟨rfl,v2,st⟩;have aa:=κ st;clear st)))
  obtain⟨W,O⟩: ∃W,W=w2.alloc (.cells #[ι h.1,ι h.2.1,ι h.2.2] 338):=⟨_,rfl⟩;have ae:W.heap[w2.heap.size]? =some (.cells #[ι h.1,ι h.2.1,ι h.2.2] 338 (0,0)):=by rw[O];exact qj w2 _
  have ad:qa w2 W:=by rw[O];exact qa.alloc w2 _
  have Y:=λ(x:qt W)=>qc x.h ae
  have an:=λx=>β0 (Y x);have c2:=λx=>β2 (Y x);clear Y
  have ai:=κ ad;rw[<-O];clear O ae ad;generalize w2.heap.size=BX at *;refine qD W (qa.refl _) ξ ξ ?_
  repeat (go_big_quiet_step (fail))
  refine wpQuiet_nil ?_;intro _ al;obtain⟨am,rfl⟩:=al;go_wp2;refine bodyPost_ret (v:= .tuple #[ι h.1,ι h.2.2,true]) (by simp[results,results133,go_sem]) rfl ?_;have m:=ai.o.trans am.h;refine⟨rfl,v2,aa.o.buf.on m, ?_, ?_⟩
  ·exact qg.old H.o (aa.o.away.more m) λk aj=>Or.inl aj
  ·exact aa.o.own.elim Or.inl λ⟨g,a,c⟩=>Or.inr ⟨g,a,Nat.le_trans H.o.size c⟩
def gt (room wait:Int):Prop:=1<=room/\room<=8/\0<=wait/\wait<=1000
instance (r w:Int):Decidable (gt r w):=by unfold gt;infer_instance
def CU (room wait:Int):Jb:=⟨room,wait,[],false,0,0⟩
theorem EJ {room d:Int} (h:gt room d):JOK (CU room d):=
 ⟨⟨h.1,h.2.1⟩,⟨h.2.2.1,h.2.2.2⟩,(by show ((0:Nat):Int)<=room;have:=h.1;omega),λk G=>(by cases G),List.Pairwise.nil,(show xz 0 from ⟨ζ,ζ⟩),(show U64 0 from ⟨ζ,ζ⟩),λe=>(by cases e)⟩
theorem Lq (room d:Int) (w:World) (h: ¬gt room d):
  Calls prog 41 #[ι room,ι d] w λe w'=>e= .returned (.tuple #[π none,ι 1])/\w=w':=by
 by_cases h1:room<1
 ·clear h
  go_enter func41,ntmps41
  go_wp2
  go_ret2
  exact⟨rfl,rfl⟩
 ·by_cases h2:8<room
  ·clear h
   go_enter func41,ntmps41
   go_wp2
   go_ret2
   exact⟨rfl,rfl⟩
  ·by_cases h3:d<0
   ·clear h
    go_enter func41,ntmps41
    go_wp2
    go_ret2
    exact⟨rfl,rfl⟩
   ·have G:1000<d:=by unfold gt at h;omega
    clear h
    go_enter func41,ntmps41
    go_wp2
    go_ret2
    exact⟨rfl,rfl⟩
theorem YM (room d:Int) (w:World) (h:gt room d):
  Calls prog 41 #[ι room,ι d] w λe w'=>e= .returned (.tuple #[γ w.heap.size,ι 0])/\xZ w' w.heap.size (δ none 0 0) (CU room d)/\qa w w'/\w.heap.size<w'.heap.size:=by
 obtain⟨G,H,I,J⟩:=h;have N: ¬room<1:=by omega
 have O: ¬8<room:=by omega
 have U: ¬d<0:=by omega
 have Y: ¬1000<d:=by omega
 clear G H I J
 go_enter func41,ntmps41
 go_wp2
 go_ret2
 exact⟨rfl,⟨qj w _,World.ownsRow_nil _ _ _ _⟩,qa.alloc w _,η⟩
theorem UI {w w':World} {base e size n:Nat} {v:Value} {xs:List Value} {S:Nat->Prop} (h:w.ownsRow base e size v n xs) (a:qg S w w') (H: ∀k,v.ownBlock=some k-> ¬S k):w'.ownsRow base e size v n xs:=by
 obtain⟨d,G⟩:=h;refine⟨d, ?_⟩;rcases G with h | ⟨g,cap,cur,e1,hb,hg,rest⟩
 ·exact Or.inl h
 ·exact Or.inr ⟨g,cap,cur,e1,hb,a.blk hg (H g (by rw[e1];rfl)),rest⟩
structure DrJ (w0 wr:World) (R:Nat) (v0 v:Value) (b:Jb) (v3:Value) (A:List Int):Prop where
 buf:xZ wr R v b
 ok:JOK b
 row:wr.ownsRow w0.heap.size 3 1 v3 A.length (A.map (Value.int .i64))
 away:qg (λk=>k=R∨v0.ownBlock=some k) w0 wr
 own:v.ownBlock=v0.ownBlock∨ ∃g,v.ownBlock=some g/\w0.heap.size<=g
 sep: ∀k,v3.ownBlock=some k->v.ownBlock≠some k
theorem DrJ.step {H wr w':World} {R:Nat} {v0 v v3 v':Value} {b:Jb} {A:List Int} {h:Hd} {T:List Hd} (G:DrJ H wr R v0 v b v3 A) (O:R<H.heap.size) (J:b.holds=h::T) (st:PS wr w' R v v' (xT b)):DrJ H w' R v0 v' (xT b) v3 A:=by
 have N: ∀k,v3.ownBlock=some k->H.heap.size<=k/\k<wr.heap.size:=λk d=>by
  rcases G.row.2 with ⟨rfl,_⟩ | ⟨g,cap,cur,rfl,J,I,_⟩
  ·cases d
  ·obtain rfl:g=k:=by injection d
   exact⟨J,lt_of_block I⟩
 refine⟨st.buf,VL G.ok J,UI G.row st.away λk d x=> ?_, ?_, ?_,λk d e=> ?_⟩
 ·rcases x with x | x
  ·have:=(N k d).1;omega
  ·exact G.sep k d x
 ·have a:qg (λk=>(k=R∨v0.ownBlock=some k)∨H.heap.size<=k) H w':=(G.away.mono λk d=>Or.inl d).trans (st.away.mono λk d=>by
   rcases d with d | d
   ·exact Or.inl (Or.inl d)
   ·rcases G.own with e | ⟨g,e,I⟩
    ·exact Or.inl (Or.inr (by rw[<-e];exact d))
    ·rw[e] at d;injection d with d
     exact Or.inr τ)
  exact qg.old (qa.refl H) a λk d=>d
 ·rcases st.own with e | ⟨g,e,I⟩
  ·rw[e];exact G.own
  ·exact Or.inr ⟨g,e,Nat.le_trans G.away.size I⟩
 ·rcases st.own with e2 | ⟨g,e2,I⟩
  ·rw[e2] at e;exact G.sep k d e
  ·rw[e2] at e;injection e with e
   have:=(N k d).2;omega
theorem DrJ.on {G wr w':World} {R:Nat} {v0 v v3:Value} {b:Jb} {A:List Int} (d:DrJ G wr R v0 v b v3 A) (m:qa wr w'):DrJ G w' R v0 v b v3 A:=
 ⟨d.buf.on m,d.ok,jE d.row m,d.away.more m,d.own,d.sep⟩
theorem DrJ.put {H wr w':World} {R:Nat} {v0 v v3 J:Value} {b:Jb} {A A':List Int} (G:DrJ H wr R v0 v b v3 A) (ac:R<H.heap.size) (Y:w'.ownsRow H.heap.size 3 1 J A'.length (A'.map (Value.int .i64))) (I:wr.grownBy w' v3.ownBlock) (aa:J.ownBlock=v3.ownBlock∨J.ownBlock=some wr.heap.size):DrJ H w' R v0 v b J A':=by
 have N: ∀k,v3.ownBlock=some k->H.heap.size<=k:=λk d=>by
  rcases G.row.2 with ⟨rfl,_⟩ | ⟨g,cap,cur,rfl,U,I,_⟩
  ·cases d
  ·obtain rfl:g=k:=by injection d
   exact U
 have a:qg (λk=>v3.ownBlock=some k) wr w':=⟨I.os,I.tape,I.output,I.size,λk d ab=>I.block k d (λe=>ab e.symm)⟩;refine⟨⟨a.blk G.buf.blk λx=>by have:=N R x;omega,G.buf.row.away a λk d x=>G.sep k x d⟩,G.ok,Y, ?_,G.own,λk d e=> ?_⟩
 ·have O:qg (λk=>(k=R∨v0.ownBlock=some k)∨H.heap.size<=k) H w':=(G.away.mono λk d=>Or.inl d).trans (a.mono λk d=>Or.inr (N k d));exact qg.old (qa.refl H) O λk d=>d
 ·rcases aa with e2 | e2
  ·rw[e2] at d;exact G.sep k d e
  ·rw[e2] at d;injection d with d
   have:=(G.buf.row.own_ge e).2;omega
def Lz:Value->Nat
 | .slice _ n _=>n
 | _=>0
theorem XA {w:World} {base e size n:Nat} {v:Value} {xs:List Value} (h:w.ownsRow base e size v n xs): ∃oa cap,v= δ oa n cap:=by
 rcases h.2 with ⟨rfl,d⟩ | ⟨g,cap,cur,rfl,_⟩
 ·exact⟨none,0,by rw[d]⟩
 ·exact⟨_,cap,rfl⟩
def Qr:Nat->Jb->Jb
 | 0,b=>b
 | n+1,b=>Qr n (xT b)
def vP (b:Jb):Jb:=Qr b.holds.length b
def thJ (L:List Hd):List Int:=L.map λh=>h.2.2
theorem Wn (b:Jb) (ok:JOK b) (R:Nat) (v:Value) (w:World) (N:xZ w R v b):
  Calls prog 125 #[γ R] w λe w'=> ∃vx,e= .returned vx/\ ∃v',DrJ w w' R v v' (vP b) vx (thJ b.holds)/\(vP b).holds=[]:=by
 have ac:=lt_of_block N.blk;obtain⟨ar,hi,ao,ap,aq⟩:=info_parts (P:=prog) (e:=3) (z:= ι 0) (size:=1) (bytes:=8) ξ;have ak:Hid (b.holds.length<=8):=κ (by have:=ok.fits;have:=ok.room;omega);have ah:Hid (DrJ w w R v v b (δ none 0 0) []):=κ ⟨N,ok,World.ownsRow_nil _ _ _ _,qg.refl _ _,Or.inl rfl,λk am=>by cases am⟩;clear N
 go_enter func125,ntmps125
 go_wp2
 go_loopw [3] (λv3 wr=> ∃v' d A,DrJ w wr R v v' d v3 A/\A++thJ d.holds=thJ b.holds/\Qr d.holds.length d=vP b) (λv3 _=>b.holds.length-Lz v3)
 case atStart=>exact⟨v,b,[],ah.o,rfl,rfl⟩
 case round=>
  obtain⟨v',d,A,H,O,ae⟩:=hrel;have aa:=κ ae;clear ae;have I:=κ H;have Y:=κ O;obtain⟨_,_,c2,_,_,_⟩:=H.buf.cells ⟨wr,qa.refl _⟩;obtain⟨az,cap,rfl,av⟩:=H.buf.row.shape;obtain⟨ax,c3,rfl⟩:=XA H.row;have an:A.length+d.holds.length=b.holds.length:=by
   have:=congrArg List.length O;unfold thJ at this;rw[List.length_append,List.length_map,List.length_map] at this;exact this
  have ab:=κ an;clear H O;cases hb:d.holds with
  | nil=>
   have G:=κ hb;rw[hb,List.length_nil] at c2;clear hb;have aj:Hid (A=thJ b.holds):=κ (by have:=Y.o;rw[G.o] at this;simpa [thJ] using this);go_wp2;go_ret;have ad:d=vP b:=by have:=aa.o;rw[G.o] at this;exact this
   exact⟨_,rfl,⟨_,by rw[<-aj.o,<-ad];exact I.o⟩,by rw[<-ad];exact G.o⟩
  | cons h T=>
   have G:=κ hb;have aw:(0:Int)<(d.holds.length:Int):=by rw[hb];simp
   clear hb;have al:=κ (Z9 d h T G.o I.o.ok R _ wr I.o.buf);have au: ∀w2,(Instr.field 338 (θ #[ι h.1,ι h.2.1,ι h.2.2]) 2).run prog w2= .ok (ι h.2.2) w2:=λw2=>by kernel_rfl
   go_wp2_with (first | (go_at_call 178;(go_call al.o as e w2 ⟨rfl,v2,st⟩;have J:=κ (I.o.step ac G.o st);clear st c2)) | (at_builtin;refine qU _ rfl (.tmp 10) (.tmp 14) 107 rfl w.heap.size 3 ar (ι 0) 8 underlying107 hi ao ap aq rfl _ .i64 A rfl (J.o.on (qa.alloc _ _)).row _ [h.2.2] rfl (SlI.lit .i64 w2 [h.2.2] 3 _ 1 _ rfl rfl rfl η) (by have:=ak.o;have:=ab.o;simp only[List.length_cons,List.length_nil];omega) ζ (by have:=J.o.away.size;simp;omega) ?_;intro v5 w5 U af ag;have ai:=κ ((J.o.on (qa.alloc _ _)).put ac U af ag);obtain⟨ay,c5,rfl⟩:=XA U;clear U af ag))
   go_roundw
   case rel=>exact⟨v2,xT d,A++[h.2.2],(by have:=ai.o;rw[List.length_append] at this;exact this),by rw[show (xT d).holds=T by unfold xT;rw[G.o]];have:=Y.o;rw[G.o] at this;rw[<-this];simp[thJ],by rw[show (xT d).holds=T by unfold xT;rw[G.o]];have:=aa.o;rw[G.o] at this;exact this⟩
   case measure=>have:=ab.o;rw[G.o] at this;simp[Lz] at *;omega
section
open Go.RowKit Go.ChangeMaps
section
variable {K V:Type} [DecidableEq K] {P:Program}
def yx (k:K):List (K×V)->Nat->Option (Nat×V)
 | [],_=>none
 | (a,v)::l,i=>if k=a then some (i,v) else yx k l (i+1)
def qh:List (K×V)->K->Option V
 | [],_=>none
 | (a,v)::l,k=>if k=a then some v else qh l k
def qx:List (K×V)->K->V->List (K×V)
 | [],k,v=>[(k,v)]
 | (a,b)::l,k,v=>if k=a then (k,v)::l else (a,b)::qx l k v
def yK:List (K×V)->K->List (K×V)
 | [],_=>[]
 | (a,b)::l,k=>if k=a then l else (a,b)::yK l k
theorem kQ {k:K} {v:V}: ∀{L:List (K×V)} {i j:Nat},yx k L j=some (i,v)->j<=i/\L[i-j]? =some (k,v)/\qh L k=some v/\yK L k=L.eraseIdx (i-j)/\ ∀u,qx L k u=L.set (i-j) (k,u)
 | [],_,_,h=>by simp[yx] at h
 | (a,b)::l,i,j,h=>by
  unfold yx at h;by_cases e:k=a
  ·rw[if_pos e] at h;cases h;subst e;simp[qh,yK,qx]
  ·rw[if_neg e] at h;obtain⟨N,G,H,I,J⟩:=kQ h;have d:i-j=(i-(j+1))+1:=by omega
   refine⟨τ,by rw[d];simpa using G,by simp[qh,e,H],by rw[d];simp[yK,e,I],λu=>by rw[d];simp[qx,e,J]⟩
theorem kR {k:K}: ∀{L:List (K×V)} {j:Nat},yx k L j=none->qh L k=none/\yK L k=L/\k∉L.map Prod.fst/\ ∀u,qx L k u=L++[(k,u)]
 | [],_,_=>by simp[qh,yK,qx]
 | (a,b)::l,j,h=>by
  unfold yx at h;by_cases e:k=a
  ·rw[if_pos e] at h;cases h
  ·rw[if_neg e] at h;obtain⟨G,H,d,I⟩:=kR h;refine⟨by simp[qh,e,G],by simp[yK,e,H],by simp[e] at d ⊢;exact d,λu=>by simp[qx,e,I]⟩
theorem Pu (k:K) (L:List (K×V)) (j:Nat):(yx k L j).map (·.2)=qh L k:=by
 cases h:yx k L j with
 | none=>simp[(kR h).1]
 | some x=>obtain⟨i,v⟩:=x;simp[(kQ h).2.2.1]
structure yz (P:Program) (kt:TypeId) (ke:K->Value):Prop where
 look: ∀(V:Type) (ve:V->Value) (k:K) (L:List (K×V)) (es:List MapEntry) (w:World),es.map (λe=>(e.key,e.val))=L.map (λp=>(ke p.1,ve p.2))->(Instr.findKey kt (ke k) es).run P w= .ok ((yx k L 0).map λx=>(x.1,ve x.2)) w
 check: ∀b k w,(Instr.checkKey b 10000 kt (ke k)).run P w= .ok () w
 same: ∀k,Instr.sameBits 10000 (ke k) (ke k)=true
theorem Ja {ke:K->Value} {G:V->Value} {d:TypeDesc} (h: ∀a b,Instr.sameNow d (ke a) (ke b)=some (decide (a=b))) (k:K): ∀(L:List (K×V)) (es:List MapEntry) (i:Nat),
  es.map (λe=>(e.key,e.val))=L.map (λp=>(ke p.1,G p.2))->Instr.findNow d (ke k) es i=some ((yx k L i).map λx=>(x.1,G x.2))
 | [],[],_,_=>rfl
 | [],_::_,_,e=>by simp at e
 | _::_,[],_,e=>by simp at e
 | (a,v)::l,x::es,i,e=>by
  simp only[List.map_cons,List.cons.injEq,Prod.mk.injEq] at e;unfold Instr.findNow yx;rw[e.1.1,h];by_cases hk:k=a
  ·simp[hk,e.1.2]
  ·simp[hk,Ja h k l es (i+1) e.2]
omit [DecidableEq K] in
theorem UT {ke:K->Value} {G:V->Value} {d:TypeDesc} (h: ∀a b,Instr.sameNow d (ke a) (ke b)=none) (k:K): ∀(L:List (K×V)) (es:List MapEntry) (i:Nat),
  es.map (λe=>(e.key,e.val))=L.map (λp=>(ke p.1,G p.2))->Instr.findNow d (ke k) es i=if L=[] then some none else none
 | [],[],_,_=>rfl
 | [],_::_,_,e=>by simp at e
 | _::_,[],_,e=>by simp at e
 | (a,v)::l,x::es,i,e=>by
  simp only[List.map_cons,List.cons.injEq,Prod.mk.injEq] at e;unfold Instr.findNow;rw[e.1.1,h];simp
theorem uL {ke:K->Value} {G:V->Value} {d:TypeId} {w:World} (h: ∀a b,(Op.equal d (ke a) (ke b)).run P w= .ok (decide (a=b)) w) (k:K): ∀(L:List (K×V)) (es:List MapEntry) (i:Nat),
  es.map (λe=>(e.key,e.val))=L.map (λp=>(ke p.1,G p.2))->(Instr.findAsking d (ke k) es i).run P w= .ok ((yx k L i).map λx=>(x.1,G x.2)) w
 | [],[],_,_=>rfl
 | [],_::_,_,e=>by simp at e
 | _::_,[],_,e=>by simp at e
 | (a,v)::l,x::es,i,e=>by
  simp only[List.map_cons,List.cons.injEq,Prod.mk.injEq] at e;unfold Instr.findAsking yx;rw[Sem.run_bind,e.1.1,h];by_cases hk:k=a
  ·simp[hk,Result.andThen,e.1.2,Sem.run,pure]
  ·simp[hk,Result.andThen,uL h k l es (i+1) e.2]
theorem yz.of_now {d:TypeId} {ke:K->Value} {G:TypeDesc} (N:P.underlying d=some G) (h: ∀a b,Instr.sameNow G (ke a) (ke b)=some (decide (a=b)))
  (I: ∀b k w,(Instr.checkKey b 10000 d (ke k)).run P w= .ok () w) (J: ∀k,Instr.sameBits 10000 (ke k) (ke k)=true):yz P d ke:=
 ⟨λV O k L H w e=>by
  unfold Instr.findKey;rw[Sem.run_bind,run_underlying N]
  simp[Result.andThen,Ja h k L H 0 e,Sem.run,pure],I,J⟩
theorem yz.of_ask {d:TypeId} {ke:K->Value} {H:TypeDesc} (O:P.underlying d=some H) (h: ∀a b,Instr.sameNow H (ke a) (ke b)=none) (J: ∀a b w,(Op.equal d (ke a) (ke b)).run P w= .ok (decide (a=b)) w)
  (I: ∀b k w,(Instr.checkKey b 10000 d (ke k)).run P w= .ok () w) (N: ∀k,Instr.sameBits 10000 (ke k) (ke k)=true):yz P d ke:=
 ⟨λV U k L G w e=>by
  unfold Instr.findKey;rw[Sem.run_bind,run_underlying O];simp only[Result.andThen,UT h k L G 0 e];by_cases hL:L=[]
  ·subst hL;simp[yx,Sem.run,pure]
  ·simp[hL,uL (λa b=>J a b w) k L G 0 e],I,N⟩
structure jk (w:World) (b:Nat) (ke:K->Value) (ve:V->Value) (L:List (K×V)):Prop where
 ex: ∃es clock,w.heap[b]? =some (.map es clock)/\es.toList.map (λe=>(e.key,e.val))=L.map (λp=>(ke p.1,ve p.2))/\(es.toList.map (·.born)).Nodup/\ ∀e∈es.toList,e.born<clock
 keys:(L.map Prod.fst).Nodup
variable {w:World} {b:Nat} {ke:K->Value} {ve:V->Value} {L:List (K×V)}
omit [DecidableEq K] in
theorem jk.lt (h:jk w b ke ve L):b<w.heap.size:=by obtain⟨⟨_,_,d,_⟩,_⟩:=h;exact lt_of_block d
omit [DecidableEq K] in
theorem jk.made (w:World) (ke:K->Value) (d:V->Value):jk (w.alloc (.map #[] 0)) w.heap.size ke d []:=
 ⟨⟨#[],0,qj _ _,rfl,η,η⟩,η⟩
omit [DecidableEq K] in
theorem jk.away {w':World} {S:Nat->Prop} (h:jk w b ke ve L) (m:qg S w w') (H: ¬S b):jk w' b ke ve L:=by
 obtain⟨⟨d,c,G,r⟩,k⟩:=h;exact⟨⟨d,c,m.blk G H,r⟩,k⟩
omit [DecidableEq K] in
theorem jk.more {w':World} (h:jk w b ke ve L) (m:qa w w'):jk w' b ke ve L:=h.away (qg.of_more (S:=λ_=>False) m) (λx=>x)
theorem yf {w:World} {b:Nat} {G:Array MapEntry} {c:Nat} (H:w.heap[b]? =some (.map G c)) (d:Obj):(setObj b d).run P w= .ok () (setBlock w b d):=by
 simp[setObj,Sem.run,H,setBlock]
theorem j7 {w:World} {b:Nat} {d:Array MapEntry} {c:Nat} (G:w.heap[b]? =some (.map d c)):(getObj b).run P w= .ok (.map d c) w:=by
 simp[getObj,Sem.run,G]
theorem zG (w:World) (b:Nat) (o:Obj):qg (λx=>x=b) w (setBlock w b o):=
 ⟨rfl,rfl,rfl,by simp[setBlock],λk _ d=>by
  simp only[setBlock]
  rw[Array.getElem?_setIfInBounds_ne (λe=>d e.symm)]⟩
theorem zD (w:World) (b:Nat) (o:Obj):(setBlock w b o).heap.size=w.heap.size:=by simp[setBlock]
theorem jk.look {O I t:TypeId} {z:Value} (h:jk w b ke ve L) (H:yz P O ke) (N:P.underlying t=some (.map O I)) (aa:(zeroValue I).run P w= .ok z w) (k:K) (c:Bool):
  (Instr.lookup t (.map (some b)) (ke k) c).run P w= .ok (if c then .tuple #[((qh L k).map ve).getD z,μ (qh L k).isSome] else ((qh L k).map ve).getD z) w:=by
 obtain⟨⟨U,ab,J,Y,_⟩,_⟩:=h;have G:=H.look V ve k L U.toList w Y;have d:=Pu k L 0;unfold Instr.lookup;cases hq:yx k L 0 with
 | none=>
  rw[hq] at G d;simp only[Option.map_none] at G d;simp[run_underlying N,j7 J,H.check,G,aa,<-d,go_sem]
 | some x=>
  rw[hq] at G d;simp only[Option.map_some] at G d;simp[run_underlying N,j7 J,H.check,G,<-d,go_sem]
theorem Jq {d:List MapEntry} {i:Nat} {k v:Value}:(d.modify i λe=>{e with key:=k,val:=v}).map (λe=>(e.key,e.val))=(d.map λe=>(e.key,e.val)).set i (k,v):=by
 induction d generalizing i with
 | nil=>simp
 | cons x l ih=>
  cases i with
  | zero=>simp[List.modify_cons]
  | succ i=>simp[ih]
theorem kA {d:List MapEntry} {i:Nat} {k v:Value}:(d.modify i λe=>{e with key:=k,val:=v}).map (·.born)=d.map (·.born):=by
 induction d generalizing i with
 | nil=>simp
 | cons x l ih=>
  cases i with
  | zero=>simp[List.modify_cons]
  | succ i=>simp[ih]
omit [DecidableEq K] in
theorem XT {k:K} {u:V} {i:Nat} {v:V} (h:L[i]? =some (k,v)):((L.set i (k,u)).map Prod.fst)=L.map Prod.fst:=by
 rw[List.map_set];refine List.ext_getElem? λj=> ?_
 rw[List.getElem?_set];by_cases hj:i=j
 ·subst hj;have hi:i<L.length:=(List.getElem?_eq_some_iff.1 h).1;have e:=(List.getElem?_eq_some_iff.1 h).2;simp[hi,e]
 ·simp[hj]
theorem jk.update {aj al t:TypeId} (h:jk w b ke ve L) (J:yz P aj ke) (ai:P.underlying t=some (.map aj al)) (k:K) (u:V):
  ∃w',(Instr.mapUpdate t (.map (some b)) (ke k) (ve u)).run P w= .ok () w'/\jk w' b ke ve (qx L k u)/\qg (λx=>x=b) w w'/\w'.heap.size=w.heap.size:=by
 obtain⟨⟨G,aa,H,Y,ah,ad⟩,af⟩:=h;have I:=J.look V ve k L G.toList w Y;unfold Instr.mapUpdate;cases hq:yx k L 0 with
 | none=>
  rw[hq] at I;simp only[Option.map_none] at I;obtain⟨aq,N,ae,O⟩:=kR hq;refine⟨setBlock w b (.map (G.push {key:=ke k,val:=ve u,born:=aa}) (aa+1)), ?_,⟨⟨_,_,heap_setBlock_same H _, ?_, ?_, ?_⟩, ?_⟩,zG _ _ _,zD _ _ _⟩
  ·simp[run_underlying ai,j7 H,J.check,I,yf H,go_sem]
  ·rw[O];simp[Y]
  ·simp only[Array.toList_push,List.map_append,List.map_cons,List.map_nil];rw[List.nodup_append];refine⟨ah,η,λa ac c U=> ?_⟩;obtain⟨e,d,rfl⟩:=List.mem_map.1 ac;have:=ad e d;simp at U;omega
  ·intro e d;simp at d;rcases d with d | rfl
   ·have:=ad e (by simpa using d);omega
   ·exact Nat.lt_succ_self _
  ·rw[O];rw[List.map_append,List.nodup_append];refine⟨af,η,λa ac c U=> ?_⟩;simp at U;subst U;intro e;subst e;exact ae ac
 | some x=>
  obtain⟨i,v⟩:=x;rw[hq] at I;simp only[Option.map_some] at I;obtain⟨aq,N,ae,O,ab⟩:=kQ hq;simp only[Nat.sub_zero] at N O ab;have hi:(G.toList.map (λe=>(e.key,e.val)))[i]? =some (ke k,ve v):=by rw[Y,List.getElem?_map,N];rfl
  rw[List.getElem?_map] at hi;obtain⟨e0,am,an⟩:=Option.map_eq_some_iff.1 hi;have ao:G[i]? =some e0:=by simpa using am
  have ap:e0.key=ke k:=congrArg Prod.fst an;have ar:(Instr.keyThatStays (((G[i]?).map (·.key)).getD (ke k)) (ke k)).run P w= .ok (ke k) w:=by
   rw[ao];simp only[Option.map_some,Option.getD_some,ap];unfold Instr.keyThatStays;rw[J.same];rfl
  refine⟨setBlock w b (.map (G.modify i λe=>{e with key:=ke k,val:=ve u}) aa), ?_,⟨⟨_,_,heap_setBlock_same H _, ?_, ?_, ?_⟩, ?_⟩,zG _ _ _,zD _ _ _⟩
  ·simp only[run_underlying ai,j7 H,J.check,I,Sem.run_bind,Result.andThen,ar,yf H]
  ·rw[ab,Array.toList_modify,Jq,Y,List.map_set]
  ·rw[Array.toList_modify,kA];exact ah
  ·intro e d;have ag:e.born∈((G.modify i λe=>{e with key:=ke k,val:=ve u}).toList.map (·.born)):=List.mem_map_of_mem d;rw[Array.toList_modify,kA] at ag;obtain⟨ak,au,av⟩:=List.mem_map.1 ag;rw[<-av];exact ad ak au
  ·rw[ab,XT N];exact af
end
end
section
open Go.RowKit Go.ChangeMaps
set_option linter.unusedSectionVars false
theorem uZ: ∀{l m:List Nat},l.Nodup->l ⊆ m->l.length<=m.length
 | [],_,_,_=>Nat.zero_le _
 | a::t,m,h,hs=>by
  simp only[List.nodup_cons] at h;have d:a∈m:=hs List.mem_cons_self;have I:t ⊆ m.erase a:=λx G=>(List.mem_erase_of_ne (λe=>h.1 (by rw[<-e];exact G))).2 (hs (List.mem_cons_of_mem _ G))
  have H:=uZ h.2 I;rw[List.length_erase_of_mem d] at H;have:=List.length_pos_of_mem d;simp only[List.length_cons];omega
theorem XE: ∀{l m:List Nat},l.Nodup->l ⊆ m->m.length<=l.length->l.Perm m
 | [],m,_,_,hl=>by
  have:m=[]:=List.eq_nil_of_length_eq_zero (by simpa using hl);rw[this]
 | a::t,m,h,hs,hl=>by
  simp only[List.nodup_cons] at h;have d:a∈m:=hs List.mem_cons_self;have I:t ⊆ m.erase a:=λx G=>(List.mem_erase_of_ne (λe=>h.1 (by rw[<-e];exact G))).2 (hs (List.mem_cons_of_mem _ G))
  have H:=XE h.2 I (by rw[List.length_erase_of_mem d];simp at hl;omega);exact(H.cons a).trans (List.perm_cons_erase d).symm
section
variable {K V:Type} [DecidableEq K] {P:Program} {w:World} {b:Nat} {ke:K->Value} {ve:V->Value} {L:List (K×V)}
theorem jk.len {O G t:TypeId} (h:jk w b ke ve L) (N:P.underlying t=some (.map O G)) (U:TypeId):(Builtin.len_ #[t] U #[.map (some b)]).run P w= .ok (ι L.length) w:=by
 obtain⟨⟨d,Y,H,I,_⟩,_⟩:=h;have J:d.size=L.length:=by
  have:=congrArg List.length I
  simpa using this
 unfold Builtin.len_;simp[run_underlying N,j7 H,J,goInt,go_sem]
theorem ZO (k:K): ∀(L:List (K×V)),(L.map Prod.fst).Nodup->((yK L k).map Prod.fst).Nodup
 | [],h=>h
 | (a,b)::l,h=>by
  simp only[List.map_cons,List.nodup_cons] at h;unfold yK;split
  ·exact h.2
  ·simp only[List.map_cons,List.nodup_cons];refine⟨λG=>h.1 ?_,ZO k l h.2⟩;obtain⟨x,d,e⟩:=List.mem_map.1 G;rw[<-e];refine List.mem_map_of_mem ?_;clear h G e
   induction l with
   | nil=>exact d
   | cons y l ih=>
    obtain⟨c,H⟩:=y;unfold yK at d;split at d
    ·exact List.mem_cons_of_mem _ d
    ·rcases List.mem_cons.1 d with rfl | d
     ·exact List.mem_cons_self
     ·exact List.mem_cons_of_mem _ (ih d)
theorem jk.drop {aa ag t:TypeId} (h:jk w b ke ve L) (N:yz P aa ke) (af:P.underlying t=some (.map aa ag)) (k:K) (al:TypeId):
  ∃w',(Builtin.delete_ #[t,aa] al #[.map (some b),ke k]).run P w= .ok (.tuple #[]) w'/\jk w' b ke ve (yK L k)/\qg (λx=>x=b) w w'/\w'.heap.size=w.heap.size:=by
 have ac:=ZO k L h.keys;obtain⟨⟨d,O,G,J,ae,ab⟩,am⟩:=h;have H:=N.look V ve k L d.toList w J;unfold Builtin.delete_;cases hq:yx k L 0 with
 | none=>
  rw[hq] at H;simp only[Option.map_none] at H;obtain⟨ah,I,ai,Y⟩:=kR hq;refine⟨setBlock w b (.map d O), ?_,⟨⟨d,O,heap_setBlock_same G _,by rw[I];exact J,ae,ab⟩,ac⟩,zG _ _ _,zD _ _ _⟩;simp[run_underlying af,j7 G,N.check,H,yf G,go_sem]
 | some x=>
  obtain⟨i,v⟩:=x;rw[hq] at H;simp only[Option.map_some] at H;obtain⟨ah,I,ai,Y,aj⟩:=kQ hq;simp only[Nat.sub_zero] at I Y aj;have hi:i<d.size:=by
   have ak:=congrArg List.length J;simp at ak;have:=(List.getElem?_eq_some_iff.1 I).1;omega
  have U:(d.eraseIdxIfInBounds i).toList=d.toList.eraseIdx i:=by simp[Array.eraseIdxIfInBounds,hi]
  refine⟨setBlock w b (.map (d.eraseIdxIfInBounds i) O), ?_,⟨⟨_,_,heap_setBlock_same G _, ?_, ?_, ?_⟩,ac⟩,zG _ _ _,zD _ _ _⟩
  ·simp[run_underlying af,j7 G,N.check,H,yf G,go_sem]
  ·rw[Y,U,map_eraseIdx,J,map_eraseIdx]
  ·rw[U,map_eraseIdx];exact List.Nodup.sublist (List.eraseIdx_sublist _ _) ae
  ·intro e ad;rw[U] at ad;exact ab e (List.Sublist.mem ad (List.eraseIdx_sublist _ _))
structure jW (w:World) (r b:Nat) (ke:K->Value) (ve:V->Value) (L:List (K×V)) (is:List Nat):Prop where
 ex: ∃(es:Array MapEntry) (clock since c0:Nat) (seen:Array Nat),w.heap[r]? =some (.mapIter (some b) since seen c0)/\w.heap[b]? =some (.map es clock)/\seen.toList=is.map (λi=>(es[i]?.map (·.born)).getD 0)/\
  es.toList.map (λe=>(e.key,e.val))=L.map (λp=>(ke p.1,ve p.2))/\(es.toList.map (·.born)).Nodup/\(∀e∈es.toList,e.born<since)/\since<=c0/\since<=clock/\(∀e∈es.toList,e.born<clock)
 nd:is.Nodup
 lt: ∀i∈is,i<L.length
 keys:(L.map Prod.fst).Nodup
theorem jW.away {r:Nat} {is:List Nat} {w':World} {S:Nat->Prop} (h:jW w r b ke ve L is) (m:qg S w w') (J: ¬S r) (O: ¬S b):jW w' r b ke ve L is:=by
 obtain⟨⟨H,G,Y,d,U,N,I,rest⟩,n,l,k⟩:=h;exact⟨⟨H,G,Y,d,U,m.blk N J,m.blk I O,rest⟩,n,l,k⟩
theorem jW.more {r:Nat} {is:List Nat} {w':World} (h:jW w r b ke ve L is) (m:qa w w'):jW w' r b ke ve L is:=h.away (qg.of_more (S:=λ_=>False) m) (λx=>x) (λx=>x)
theorem jW.rlt {r:Nat} {is:List Nat} (h:jW w r b ke ve L is):r<w.heap.size:=by
 obtain⟨⟨I,H,N,G,J,d,_⟩,_⟩:=h;exact lt_of_block d
theorem jk.range {aa J t:TypeId} (h:jk w b ke ve L) (Y:P.underlying t=some (.map aa J)):
  ∃w',(Instr.range t (.map (some b))).run P w= .ok (γ w.heap.size) w'/\jW w' w.heap.size b ke ve L []/\qa w w'/\w'.heap.size=w.heap.size+1:=by
 obtain⟨⟨I,d,G,N,U,H⟩,O⟩:=h;refine⟨w.alloc (.mapIter (some b) d #[] d), ?_,⟨⟨I,d,d,d,#[],qj _ _,qs G _,rfl,N,U,H,Nat.le_refl _,Nat.le_refl _,H⟩,List.nodup_nil,η,O⟩,qa.alloc _ _,η⟩;unfold Instr.range;simp[run_underlying Y,j7 G,go_sem]
theorem jW.next {r:Nat} {is:List Nat} (h:jW w r b ke ve L is):
  (is.length=L.length/\ ∀ad,(Instr.next (γ r) false ad).run P w= .ok (.tuple #[μ false]) w)∨
  ∃(i:Nat) (hi:i<L.length) (w':World),i∉is/\is.length<L.length/\(∀ad,(Instr.next (γ r) false ad).run P w= .ok (.tuple #[μ true,ke L[i].1,ve L[i].2]) w')/\
   jW w' r b ke ve L (is++[i])/\qg (λx=>x=r) w w'/\w'.heap.size=w.heap.size/\(Instr.entry (γ r)).run P w'= .ok (.tuple #[ke L[i].1,ve L[i].2]) w':=by
 obtain⟨⟨d,I,N,ao,H,ak,Y,az,af,ai,ay,aB,ap,aF⟩,an,ac,aH⟩:=h;have aI:d.size=L.length:=by
  have:=congrArg List.length af
  simpa using this
 have aE: ∀(i j:Nat) (hi:i<d.size) (G:j<d.size),d[i].born=d[j].born->i=j:=λi j hi G e=>by
  have aw:=List.pairwise_iff_getElem.1 ai;rcases Nat.lt_trichotomy i j with h | h | h
  ·exact absurd (by rw[List.getElem_map,List.getElem_map];exact e) (aw i j (by simpa using hi) (by simpa using G) h)
  ·exact h
  ·exact absurd (by rw[List.getElem_map,List.getElem_map];exact e.symm) (aw j i (by simpa using G) (by simpa using hi) h)
 have au: ∀i (hi:i<d.size),(d[i].born∈H.toList↔i∈is):=λi hi=>by
  rw[az];constructor
  ·intro J;obtain⟨j,G,e⟩:=List.mem_map.1 J;have av:j<d.size:=by rw[aI];exact ac j G
   simp[av] at e;rw[aE i j hi av e.symm];exact G
  ·intro J;exact List.mem_map.2 ⟨i,J,by simp[hi]⟩
 rcases run_next_at (P:=P) w 0 r b N ao H d I ak Y ay aB with ⟨aN,al⟩ | ⟨e,J,w1,ab,al⟩
 ·left;refine⟨?_,λ_=>al⟩;have aC: ∀i,i<L.length->i∈is:=λi hi=>by
   have aG:i<d.size:=by omega
   by_cases J:i∈is
   ·exact J
   ·exfalso;have:d[i]∈(leftOf d H).toList:=by
     unfold leftOf;simp only[Array.toList_filter,List.mem_filter];refine⟨η, ?_⟩;have am:=mt (au i aG).1 J
     simpa using am
    have aq:(leftOf d H).toList.length=0:=by simpa using aN
    rw[List.length_eq_zero_iff] at aq;rw[aq] at this;cases this
  have aO:is.length<=L.length:=by
   have:is ⊆ List.range L.length:=λi hi=>List.mem_range.2 (ac i hi)
   simpa using uZ an this
  have p2:L.length<=is.length:=by
   have:List.range L.length ⊆ is:=λi hi=>aC i (List.mem_range.1 hi)
   simpa using uZ List.nodup_range this
  omega
 ·right;have ah:e∈d.toList/\e.born∉H.toList:=by
   unfold leftOf at J;simp only[Array.toList_filter,List.mem_filter] at J;exact⟨J.1,by simpa using J.2⟩
  obtain⟨i,hi,aA⟩:=List.mem_iff_getElem.1 ah.1;have ag:i<d.size:=by simpa using hi
  have aa:i<L.length:=by omega
  have e0:d[i]=e:=by simpa using aA
  have aj:i∉is:=by
   intro am;exact ah.2 (by rw[<-e0];exact(au i ag).2 am)
  have U:(e.key,e.val)=(ke L[i].1,ve L[i].2):=by
   have:=congrArg (λl=>l[i]?) af;simp[ag,aa,e0] at this;simp[this]
  simp only[Prod.mk.injEq] at U;have aL:w1.heap[r]? =some (.mapIter (some b) N H ao):=by rcases ab with rfl | rfl<;>exact ak
  have aD:w1.heap[b]? =some (.map d I):=by rcases ab with rfl | rfl<;>exact Y
  have aM:b≠r:=by intro e;rw[e,ak] at Y;cases Y
  have ax:(setBlock w1 r (.mapIter (some b) N (H.push e.born) I)).heap[r]? =some (.mapIter (some b) N (H.push e.born) I):=by
   simp only[setBlock];rw[Array.getElem?_setIfInBounds_self_of_lt (lt_of_block aL)]
  have ar:(setBlock w1 r (.mapIter (some b) N (H.push e.born) I)).heap[b]? =some (.map d I):=by
   simp only[setBlock];rw[Array.getElem?_setIfInBounds_ne (λe=>aM e.symm)];exact aD
  have aJ:is.length<L.length:=by
   have aK:(is++[i]).Nodup:=by
    rw[List.nodup_append];refine⟨an,η,λa ae c O=> ?_⟩;simp at O;subst O;intro e;subst e;exact aj ae
   have:is++[i] ⊆ List.range L.length:=λj G=>by
    simp at G;rcases G with G | rfl
    ·exact List.mem_range.2 (ac j G)
    ·exact List.mem_range.2 aa
   have:=uZ aK this;simp at this;omega
  refine⟨i,aa,setBlock w1 r (.mapIter (some b) N (H.push e.born) I),aj,aJ,λad=>by rw[<-U.1,<-U.2];exact al,⟨⟨d,I,N,I,H.push e.born,ax,ar, ?_,af,ai,ay,ap,ap,aF⟩, ?_, ?_,aH⟩, ?_, ?_, ?_⟩
  ·simp[az,ag,e0]
  ·rw[List.nodup_append];refine⟨an,η,λa ae c O=> ?_⟩;simp at O;subst O;intro e;subst e;exact aj ae
  ·intro j G;simp at G;rcases G with G | rfl
   ·exact ac j G
   ·exact aa
  ·have:=zG w1 r (.mapIter (some b) N (H.push e.born) I);rcases ab with rfl | rfl
   ·exact this
   ·exact⟨this.os,this.tape,this.output,this.size,this.block⟩
  ·rw[zD];rcases ab with rfl | rfl<;>rfl
  ·rw[run_entry_at _ r b N H d I e ax ar ah.1 ai,U.1,U.2]
def uO (w:World) (b r:Nat):Nat:=match w.heap[r]?,w.heap[b]? with
 | some (.mapIter _ _ seen _),some (.map es _)=>es.size-seen.size
 | _,_=>0
theorem jW.left {r:Nat} {is:List Nat} (h:jW w r b ke ve L is):uO w b r=L.length-is.length:=by
 obtain⟨⟨d,aa,ab,Y,U,N,I,O,J,_⟩,_⟩:=h;have G:d.size=L.length:=by
  have:=congrArg List.length J
  simpa using this
 have H:U.size=is.length:=by
  have:=congrArg List.length O
  simpa using this
 unfold uO;rw[N,I];simp only[G,H]
def zj (L:List (K×V)) (is:List Nat):List (K×V):=is.filterMap λi=>L[i]?
theorem uW {is:List Nat} {i:Nat} (hi:i<L.length):zj L (is++[i])=zj L is++[L[i]]:=by
 simp[zj,List.filterMap_append,hi]
theorem jW.perm {r:Nat} {is:List Nat} (h:jW w r b ke ve L is) (I:is.length=L.length):(zj L is).Perm L:=by
 have N:is ⊆ List.range L.length:=λi hi=>List.mem_range.2 (h.lt i hi)
 have J:is.Perm (List.range L.length):=XE h.nd N (by simp[I]);have d:=J.filterMap (λi=>L[i]?);have G:(List.range L.length).filterMap (λi=>L[i]?)=L:=by
  refine List.ext_getElem? λj=> ?_
  have H: ∀n,n<=L.length->(List.range n).filterMap (λi=>L[i]?)=L.take n:=by
   intro n
   induction n with
   | zero=>simp
   | succ n ih=>
    intro O;rw[List.range_succ,List.filterMap_append,ih τ,List.take_succ_eq_append_getElem τ];simp[show n<L.length by omega]
  rw[H L.length (Nat.le_refl _),List.take_length]
 rw[G] at d;exact d
end
theorem Ab {P:Program} {G:TypeId} {q:IntKind} (d:P.underlying G=some (.int q)):yz P G (Value.int q):=
 yz.of_now d (λa b=>by simp[Instr.sameNow];rw[Bool.eq_iff_iff];simp) (λb k w=>by
  rw[show (10000:Nat)=9999+1 from rfl];unfold Instr.checkKey;rw[Sem.run_bind,run_underlying d]
  rfl) (λk=>by simp[Instr.sameBits])
end
section
open Go.RowKit
abbrev Bk:=List ((Int×Int)×Int)
def ke2 (k:Int×Int):Value:= .agg #[.int .i64 k.1,.int .i64 k.2]
theorem PN (a b:Int×Int) (w:World):(Op.equal 169 (ke2 a) (ke2 b)).run prog w= .ok (decide (a=b)) w:=by
 have J:prog.stoodInHeld 169=false:=by kernel_rfl
 obtain⟨d,G⟩:=a;obtain⟨H,I⟩:=b;unfold Op.equal ke2;rw[show Op.maxDepth=9999+1 from rfl,run_equalIn_agg w 9999 169 _ _ ξ J];simp[go_sem];by_cases e1:d=H<;>by_cases e2:G=I<;>simp[e1,e2]
theorem Dg {P:Program} {d:TypeId} {q:IntKind} (G:P.underlying d=some (.int q)) (n:Nat) (H:0<n) (b:Bool) (x:Int) (w:World):(Instr.checkKey b n d (.int q x)).run P w= .ok () w:=by
 obtain⟨m,rfl⟩: ∃m,n=m+1:=⟨n-1,τ⟩;unfold Instr.checkKey;rw[Sem.run_bind,run_underlying G];rfl
theorem Ys:yz prog 169 ke2:=
 yz.of_ask underlying169 (λa b=>by simp[Instr.sameNow]) PN (λb k w=>by
  rw[show (10000:Nat)=9999+1 from rfl];unfold Instr.checkKey ke2
  simp[run_underlying underlying169,go_sem,Dg underlying3 9999 ζ]) (λk=>by simp[Instr.sameBits,ke2])
structure jy (w:World) (B b:Nat) (m:Bk):Prop where
 blk:w.heap[B]? =some (.cells #[.map (some b)] 238 (0,0))
 map:jk w b ke2 (Value.int .i64) m
 ok: ∀p∈m,0<=p.2/\p.2<=8
theorem jy.ne {w:World} {B b:Nat} {m:Bk} (h:jy w B b m):B≠b:=by
 intro e;obtain⟨H,G,d,_⟩:=h.map.ex;have:=h.blk;rw[e,d] at this;cases this
theorem jy.more {w w':World} {B b:Nat} {m:Bk} (h:jy w B b m) (d:qa w w'):jy w' B b m:=⟨qc d h.blk,h.map.more d,h.ok⟩
theorem jy.away {w w':World} {B b:Nat} {m:Bk} {S:Nat->Prop} (h:jy w B b m) (a:qg S w w') (d: ¬S B) (G: ¬S b):jy w' B b m:=⟨a.blk h.blk d,h.map.away a G,h.ok⟩
theorem Gu (w:World):(zeroValue 80).run prog w= .ok (ι 0) w:=by kernel_rfl
theorem jy.look {w:World} {B b:Nat} {m:Bk} (h:jy w B b m) (k:Int×Int) (n:Nat):
  (Instr.lookup 236 (.map (some b)) (θ #[ι k.1,ι k.2]) true).run prog (w.drewN n)= .ok (.tuple #[ι ((qh m k).getD 0),μ (qh m k).isSome]) (w.drewN n):=by
 have:=(h.map.more (qa.drewN w n)).look Ys underlying236 (Gu _) k true;unfold ke2 at this;rw[this];cases qh m k<;>rfl
theorem Nv (w:World):Calls prog 43 #[] w λe w'=> ∃B b,e= .returned (γ B)/\w.heap.size<=B/\w.heap.size<=b/\jy w' B b []/\qa w w':=by
 go_enter func43,ntmps43
 have d:= @run_makeMap prog;go_wp2;go_ret;exact⟨w.heap.size+1,w.heap.size,rfl,τ,τ,⟨qC η,(jk.made w ke2 (Value.int .i64)).more (qa.alloc _ _),η⟩,(qa.alloc _ _).al _⟩
theorem MK {w:World} {B b:Nat} {m:Bk} (h:jy w B b m) (k:Int×Int):
  Calls prog 61 #[γ B,θ #[ι k.1,ι k.2]] w λe w'=>e= .returned (.tuple #[ι ((qh m k).getD 0),μ (qh m k).isSome])/\qa w w':=by
 have d:=h.more (qa.alloc w (.cells #[ι k.1,ι k.2] 169));have H:=β0 d.blk;have q:=d.look k;clear d h
 go_enter func61,ntmps61
 go_wp2;refine wp_region_quiet_lit ξ ξ ?_
 repeat (go_big_quiet_step (fail))
 refine wpQuiet_nil ?_;intro _ G;obtain⟨nq,rfl⟩:=G;go_wp2
 go_ret2
 exact⟨rfl,(qa.alloc _ _).dr _⟩
end
section
open Go.RowKit
def vT (m:Bk) (k:Int×Int):Bk×Int:=if 0<=k.1/\k.1<6/\0<=k.2 then (if (qh m k).isSome then (m,6) else (qx m k 0,0)) else (m,1)
def zi (m:Bk) (k:Int×Int) (f:Int):Bk×Int:=if 1<=f/\f<=8 then (if (qh m k).isSome then (if (qh m k).getD 0=0 then (qx m k f,0) else (m,6)) else (m,5)) else (m,1)
theorem VE {K V:Type} [DecidableEq K] {k:K} {v:V}: ∀{m:List (K×V)} {p:K×V},p∈qx m k v->p∈m∨p=(k,v)
 | [],p,h=>by simp[qx] at h;exact Or.inr h
 | (a,b)::l,p,h=>by
  unfold qx at h;split at h
  ·rcases List.mem_cons.1 h with h | h
   ·exact Or.inr h
   ·exact Or.inl (List.mem_cons_of_mem _ h)
  ·rcases List.mem_cons.1 h with h | h
   ·exact Or.inl (by rw[h];exact List.mem_cons_self)
   ·rcases VE h with h | h
    ·exact Or.inl (List.mem_cons_of_mem _ h)
    ·exact Or.inr h
theorem jy.put {w w':World} {B b:Nat} {m:Bk} (h:jy w B b m) (a:qg (λx=>x=b) w w') {k:Int×Int} {f:Int} (G:0<=f/\f<=8) (H:jk w' b ke2 (Value.int .i64) (qx m k f)):jy w' B b (qx m k f):=
 ⟨a.blk h.blk h.ne,H,λp d=>by
  rcases VE d with d | rfl
  ·exact h.ok p d
  ·exact G⟩
theorem Nu {w:World} {B b:Nat} {m:Bk} (h:jy w B b m) (k:Int×Int):
  Calls prog 193 #[γ B,θ #[ι k.1,ι k.2]] w λe w'=>e= .returned (ι (vT m k).2)/\jy w' B b (vT m k).1/\qg (λx=>x=b) w w':=by
 have I:=h.more (qa.alloc w (.cells #[ι k.1,ι k.2] 169));have ag:=β0 I.blk;have q:=I.look k;have H:=κ I;clear I h;have ac:k.1<0∨(¬k.1<0/\6<=k.1)∨(¬k.1<0/\ ¬6<=k.1/\k.2<0)∨(¬k.1<0/\ ¬6<=k.1/\ ¬k.2<0):=by omega
 rcases ac with g1 | ⟨g1,g2⟩ | ⟨g1,g2,g3⟩ | ⟨g1,g2,g3⟩
 ·have d:vT m k=(m,1):=by unfold vT;rw[if_neg τ]
  have G:=κ d;clear d q
  go_enter func193,ntmps193
  go_wp2;go_ret;rw[G.o];exact⟨rfl,H.o,qg.of_more (qa.alloc _ _)⟩
 ·have d:vT m k=(m,1):=by unfold vT;rw[if_neg τ]
  have G:=κ d;clear d q
  go_enter func193,ntmps193
  go_wp2;go_ret;rw[G.o];exact⟨rfl,H.o,qg.of_more (qa.alloc _ _)⟩
 ·have d:vT m k=(m,1):=by unfold vT;rw[if_neg τ]
  have G:=κ d;clear d q
  go_enter func193,ntmps193
  go_wp2;go_ret;rw[G.o];exact⟨rfl,H.o,qg.of_more (qa.alloc _ _)⟩
 ·cases hs:(qh m k).isSome with
  | true=>
   have d:vT m k=(m,6):=by unfold vT;rw[if_pos τ,hs];rfl
   have G:=κ d;simp only[hs] at q;clear d hs
   go_enter func193,ntmps193
   go_wp2;refine wp_region_quiet_lit ξ ξ ?_
   repeat (go_big_quiet_step (fail))
   refine wpQuiet_nil ?_;intro _ J;obtain⟨nq,rfl⟩:=J;go_wp2;go_ret;rw[G.o];exact⟨rfl,H.o.more (qa.drewN _ _),qg.of_more ((qa.alloc _ _).dr _)⟩
  | false=>
   have d:vT m k=(qx m k 0,0):=by unfold vT;rw[if_pos τ,hs];rfl
   have G:=κ d;simp only[hs] at q;clear d hs
   go_enter func193,ntmps193
   go_wp2;refine wp_region_quiet_lit ξ ξ ?_
   repeat (go_big_quiet_step (fail))
   refine wpQuiet_nil ?_;intro _ J;obtain⟨nq,rfl⟩:=J
   go_wp2_with fail
   have ad:=λ(x:qt (w.alloc (.cells #[ι k.1,ι k.2] 169)))=>β0 (qc x.h H.o.blk)
   have ae: ∀x:qt (w.alloc (.cells #[ι k.1,ι k.2] 169)),x.w'.cell? ⟨w.heap.size,0,none⟩=some (ι k.1):=λx=>x.new 0 rfl
   have af: ∀x:qt (w.alloc (.cells #[ι k.1,ι k.2] 169)),x.w'.cell? ⟨w.heap.size,1,none⟩=some (ι k.2):=λx=>x.new 1 rfl
   refine Qn (w.alloc (.cells #[ι k.1,ι k.2] 169)) 5 6 [5] ?_
   refine Qq5 ?_
   obtain⟨w9,ab,Y,U,_⟩:=(H.o.map.more (qa.drewN _ (nq+1))).update Ys underlying236 k 0;unfold ke2 at ab;have aa:=κ Y;have N:=κ U;clear Y U
   (refine Qe ?_;intro K O)
   refine O _ _ ?_;clear O K;refine qA ?_;go_wp2;go_ret;rw[G.o];exact⟨rfl,(H.o.more (qa.drewN _ (nq+1))).put N.o ζ aa.o,(qg.of_more ((qa.alloc _ _).dr _)).trans N.o⟩
theorem yP (f:Int) (w:World) (h:1<=f/\f<=8):Calls prog 166 #[ι f] w λe w'=>e= .returned (μ true)/\w=w':=by
 obtain⟨d,G⟩:=h
 go_enter func166,ntmps166
 go_wp2;go_ret;exact⟨rfl,rfl⟩
theorem Jh (f:Int) (w:World) (h: ¬(1<=f/\f<=8)):Calls prog 166 #[ι f] w λe w'=>e= .returned (μ false)/\w=w':=by
 have d:f<1∨(¬f<1/\8<f):=by omega
 clear h;rcases d with h1 | ⟨h1,h2⟩
 ·go_enter func166,ntmps166
  go_wp2;go_ret;exact⟨rfl,rfl⟩
 ·go_enter func166,ntmps166
  go_wp2;go_ret;exact⟨qZ (by simp;omega),rfl⟩
theorem F0 {w:World} {B b:Nat} {m:Bk} (h:jy w B b m) (k:Int×Int) (f:Int):
  Calls prog 177 #[γ B,θ #[ι k.1,ι k.2],ι f] w λe w'=>e= .returned (ι (zi m k f).2)/\jy w' B b (zi m k f).1/\qg (λx=>x=b) w w':=by
 have N:=h.more (qa.alloc w (.cells #[ι k.1,ι k.2] 169));have ag:=β0 N.blk;have q:=N.look k;have I:=κ N;clear N h;by_cases hf:1<=f/\f<=8
 ·have G:=κ hf;clear hf;cases hs:(qh m k).isSome with
  | false=>
   have d:zi m k f=(m,5):=by unfold zi;rw[if_pos G.o,hs];rfl
   have H:=κ d;simp only[hs] at q;clear d hs
   go_enter func177,ntmps177
   go_wp2_with (go_at_call 166;((with_reducible refine(yP f _ G.o).mono ?_);rintro e w2 ⟨rfl,rfl⟩))
   refine wp_region_quiet_lit ξ ξ ?_
   repeat (go_big_quiet_step (fail))
   refine wpQuiet_nil ?_;intro _ J;obtain⟨nq,rfl⟩:=J;go_wp2;go_ret;rw[H.o];exact⟨rfl,I.o.more (qa.drewN _ _),qg.of_more ((qa.alloc _ _).dr _)⟩
  | true=>
   by_cases hv:(qh m k).getD 0=0
   ·have d:zi m k f=(qx m k f,0):=by unfold zi;rw[if_pos G.o,if_pos hs,if_pos hv]
    have H:=κ d;simp only[hs,hv] at q;clear d hs hv
    go_enter func177,ntmps177
    go_wp2_with (go_at_call 166;((with_reducible refine(yP f _ G.o).mono ?_);rintro e w2 ⟨rfl,rfl⟩))
    refine wp_region_quiet_lit ξ ξ ?_
    repeat (go_big_quiet_step (fail))
    refine wpQuiet_nil ?_;intro _ J;obtain⟨nq,rfl⟩:=J
    go_wp2_with fail
    have ad:=λ(x:qt (w.alloc (.cells #[ι k.1,ι k.2] 169)))=>β0 (qc x.h I.o.blk)
    have ae: ∀x:qt (w.alloc (.cells #[ι k.1,ι k.2] 169)),x.w'.cell? ⟨w.heap.size,0,none⟩=some (ι k.1):=λx=>x.new 0 rfl
    have af: ∀x:qt (w.alloc (.cells #[ι k.1,ι k.2] 169)),x.w'.cell? ⟨w.heap.size,1,none⟩=some (ι k.2):=λx=>x.new 1 rfl
    refine Qn (w.alloc (.cells #[ι k.1,ι k.2] 169)) 6 7 [6] ?_
    refine Qq6 ?_
    obtain⟨w9,ac,aa,Y,_⟩:=(I.o.map.more (qa.drewN _ (nq+1))).update Ys underlying236 k f;unfold ke2 at ac;have ab:=κ aa;have O:=κ Y;clear aa Y
    (refine Qe ?_;intro K U)
    refine U _ _ ?_;clear U K;refine qA ?_;go_wp2;go_ret;rw[H.o];exact⟨rfl,(I.o.more (qa.drewN _ (nq+1))).put O.o (by have:=G.o;omega) ab.o,(qg.of_more ((qa.alloc _ _).dr _)).trans O.o⟩
   ·have d:zi m k f=(m,6):=by unfold zi;rw[if_pos G.o,if_pos hs,if_neg hv]
    have H:=κ d;simp only[hs] at q;generalize (qh m k).getD 0=fv at *;have ah:(fv != 0)=true:=by simpa using hv
    clear d hs hv
    go_enter func177,ntmps177
    go_wp2_with (go_at_call 166;((with_reducible refine(yP f _ G.o).mono ?_);rintro e w2 ⟨rfl,rfl⟩))
    refine wp_region_quiet_lit ξ ξ ?_
    repeat (go_big_quiet_step (fail))
    refine wpQuiet_nil ?_;intro _ J;obtain⟨nq,rfl⟩:=J;go_wp2;go_ret;rw[H.o];exact⟨rfl,I.o.more (qa.drewN _ _),qg.of_more ((qa.alloc _ _).dr _)⟩
 ·have d:zi m k f=(m,1):=by unfold zi;rw[if_neg hf]
  have H:=κ d;have G:=κ hf;clear d q hf
  go_enter func177,ntmps177
  go_wp2_with (go_at_call 166;((with_reducible refine(Jh f _ G.o).mono ?_);rintro e w2 ⟨rfl,rfl⟩))
  go_ret;rw[H.o];exact⟨rfl,I.o,qg.of_more (qa.alloc _ _)⟩
end
end Go.Proofs.YtlmllmonabafjaaGreatDoor
