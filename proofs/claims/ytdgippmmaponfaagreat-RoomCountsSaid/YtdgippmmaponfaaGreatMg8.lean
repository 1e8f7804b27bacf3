/- Contracts of the functions that the law reaches, and plain laws; no conditions but those written at each. -/
import Derived.Test.YtdgippmmaponfaaGreatMg7
import Derived.Maps.RangeRun
import Derived.ChangeMaps5
import Derived.Maps.OwnSet
import Derived.Shelf.Sort.Plain
import Derived.Shelf.Slices.In.SortNone
import Derived.Sort.OwnSortedInts
namespace Go.Proofs.YtdgippmmaponfaaGreat
open Go.Value renaming bool->μ,slice->δ,pointer->π,agg->θ
open Go.IntKind renaming i64->ι,u8->υ,u16->φ,u32->ω,i32->χ,u64->ψ
open _root_.Go.Proofs.Tryz
set_option linter.unusedSimpArgs false
set_option maxHeartbeats 8000000
set_option linter.unusedVariables false
open Go.RowKit Go.Lib
set_option maxRecDepth 100000
theorem Bl {w w10 G:World} {R:Nat} {b:Jb} {h:Hd} {H:Option Addr} {cap:Nat} {v':Value} (M:xZ w10 R (δ H b.holds.length cap) b) (aa:qa w w10) (ab:R<w.heap.size)
  (J:qg (λk=>(δ H b.holds.length cap).ownBlock=some k) w10 G) (N:zT G (R+1) v' (ue b.holds h)) (Y:v'.ownBlock=(δ H b.holds.length cap).ownBlock∨ ∃g,v'.ownBlock=some g/\w.heap.size<=g):
  kc w (G.setCell ⟨R,2,none⟩ v') R (δ H b.holds.length cap) v' {b with holds:=ue b.holds h}:=by
 have O:(δ H b.holds.length cap).ownBlock≠some R:=λe=>by have:=(M.row.own_ge e).1;omega
 have U:v'.ownBlock≠some R:=λe=>by have:=(N.own_ge e).1;omega
 have I:qg (λk=>k=R) G (G.setCell ⟨R,2,none⟩ v'):=(qg.refl (λk=>k=R) G).set (p:=⟨R,2,none⟩) rfl v';refine⟨⟨qB (qp (J.blk M.blk O) 2 v') rfl,N.away I (λk d x=>U (by rw[<-x];exact d))⟩, ?_,Y⟩;exact qg.old aa ((J.mono λk d=>Or.inr d).trans (I.mono λk d=>Or.inl d)) λk d=>Or.inl d
theorem CG (b:Jb) (ok:JOK b) (R:Nat) (v:Value) (n d x:Int) (aY:xz n) (w:World) (ab:xZ w R v b):
  Calls prog 180 #[γ R,ι n,ι d,ι x] w λbs w'=>bs= .returned (ι (jP b n d x).2)/\ ∃v',kc w w' R v v' (jP b n d x).1:=by
 have bN:Hid (b.room<=b.holds.length∨b.holds.length<=8):=κ (by have:=ok.fits;have:=ok.room;omega);have bx:=uY aY;have bA:=uY ok.hi;obtain⟨bT,bZ⟩:=ok.hi;obtain⟨bX,bW⟩:=aY;have bw:=κ ok.bits;have aa:=κ (ab.on (qa.alloc w (.cells #[ι n] 2)));have aL:=qj w (.cells #[ι n] 2);have aP:=κ aL;have an:=ux b R v _ aa.o ok.hi;have aQ:=κ (qa.alloc w (.cells #[ι n] 2));have aq: ∀args w,(callFunc 217 args).run prog w= .ok (.enter 217 args) w:=λargs w=>by kernel_rfl
 have br: ∀args w,(callFunc 218 args).run prog w= .ok (.enter 218 args) w:=λargs w=>by kernel_rfl
 have av:Hid (ZA 217 #[γ w.heap.size] (λk=>k.1==n) b.holds (w.alloc (.cells #[ι n] 2))):=κ λaG y _ m=>Dp n _ y aG (qc m aL)
 obtain⟨_,_,c2,_,_,_⟩:=aa.o.cells ⟨_,qa.refl _⟩;have bS:w.heap.size≠R:=λe=>by have:=lt_of_block ab.blk;omega
 obtain⟨G,cap,rfl,bQ⟩:=ab.row.shape;obtain⟨aU,aK⟩:=ν (JM b n);obtain⟨U,aD⟩:=ν (b.begun);rw[aD] at an;obtain⟨bl,aH⟩:=ν ((if U=true then b.hi+1 else 0));rw[aH] at an;have bG:=κ an;have bD:=κ aH;have aA:=κ aD;obtain⟨bm,bg⟩:=ν (yi b.hi b.bits n);have aj:=κ bg;clear an aH bg;have bd:Hid ((b.holds.any λk=>k.1==n)=aU):=κ aK;have ai:=κ aK;have bv:Hid ((δ G b.holds.length cap).ownBlock≠some w.heap.size):=κ (λe=>by have:=(ab.row.own_ge e).2;omega);have aT:=κ (lt_of_block ab.blk);have am:Hid (∀(e:Int) (ar:World),jP b n d x=(b,e)->xZ ar R (δ G b.holds.length cap) b->qa w ar->(Ending.returned (ι e)= .returned (ι (jP b n d x).2)/\ ∃v',kc w ar R (δ G b.holds.length cap) v' (jP b n d x).1)):=κ (λe ar O ae bB=>by rw[O];exact⟨rfl,_,kc.keep bB ae⟩);clear ab aL aD aK
 go_enter func180,ntmps180
 go_upto_block 0 with (go_at_call 149;(go_call bG.o as bV w1 ⟨rfl,rfl⟩))
 go_cut [] from 21 to 82 (λM=>xZ M R (δ G b.holds.length cap) b/\M.heap[w.heap.size]? =some (.cells #[ι n] 2)/\qa w M/\jP b n d x=({b with holds:=ue b.holds (n,d,x)},0)/\ ¬b.room<=b.holds.length)
 case first=>
  cases aU
  ·go_upto_region 5 with (go_at_call 150;(go_call xt _ _ (λk=>k.1==n) aq b.holds _ (R+1) _ aa.o.row av.o as aI w2 ⟨rfl,J⟩;rw[bd.o];have N:=κ (aa.o.on J);have aw:=κ (qc J aP.o);have ay:=κ (aQ.o.trans J);clear J))
   clear av c2 aq;have bK:=λ(x:qt w2)=>β0 (qc x.h aw.o)
   have bq: ∀x:qt w2,x.w'.cell? ⟨R,4,none⟩=some (ι b.hi):=λx=>(N.o.cells x).2.2.2.2.1
   have bj: ∀x:qt w2,x.w'.cell? ⟨R,5,none⟩=some (ψ b.bits):=λx=>(N.o.cells x).2.2.2.2.2
   have bn:Hid (∀W:World,Calls prog 219 #[θ #[ι b.hi,ψ b.bits],ι n] W λe w'=>e= .returned (μ bm)/\qa W w'):=κ λW=>by rw[<-aj.o];exact FX b.hi b.bits n bA bx bw.o W
   obtain⟨q,bc⟩:=ν ((U&&bm));have ag:=κ bc;clear bc
   go_cut [21] from 28 to 82 (λv M=>v= μ q/\qa w2 M)
   case first=>
    cases U
    all_goals
     refine qD w2 (qa.refl _) ξ ξ ?_
     repeat (go_big_quiet_step ((go_at_call 219;with_reducible exact j6 (bn.o _))))
     refine wpQuiet_nil ?_;intro _ aE;obtain⟨ba,rfl⟩:=aE;have af:=κ ba.h;generalize ba.w'=w5 at *;go_wp2;go_meet;exact⟨by rw[<-ag.o];simp,af.o⟩
   case rest=>
   obtain⟨rfl,ao⟩:=hcut;have ah:=κ (N.o.on ao);have aZ:=κ (qc ao aw.o);have af:=κ (ay.o.trans ao);clear ao bK bq bj N aw ay bn;cases q
   ·have bM:=β0 aZ.o;obtain⟨aC,be⟩:=ν ((U&&decide (n<bl)));have au:=κ be;clear be;have aJ:Hid ((U&&decide (n<b.hi+1))=aC):=κ (by rw[<-au.o,<-bD.o];cases U<;>simp)
    go_upto_region 7 with fail
    go_cut [37] from 38 to 82 (λv M=>v= μ aC/\wc=M)
    case first=>
     cases U
     ·go_wp2;go_meet;exact⟨by rw[<-au.o];rfl,rfl⟩
     ·by_cases hl:n<bl
      ·go_wp2;go_meet;exact⟨by rw[<-au.o];simp[hl],rfl⟩
      ·go_wp2;go_meet;exact⟨by rw[<-au.o];simp[hl],rfl⟩
    case rest=>
    obtain⟨rfl,rfl⟩:=hcut;cases aC
    ·go_upto_region 9 with fail
     have bO: ∀x:qt wc,x.w'.cell? ⟨R,0,none⟩=some (ι b.room):=λx=>(ah.o.cells x).1
     have c2: ∀x:qt wc,x.w'.cell? ⟨R,2,none⟩=some (δ G b.holds.length cap):=λx=>(ah.o.cells x).2.2.1
     by_cases hf:b.room<=b.holds.length
     all_goals
      refine qD wc (qa.refl _) ξ ξ ?_
      repeat (go_big_quiet_step (fail))
      refine wpQuiet_nil ?_;intro _ aE;obtain⟨az,rfl⟩:=aE;have ac:=κ (ah.o.on az.h);have ap:=κ (qc az.h aZ.o);have aB:=κ (af.o.trans az.h);clear bO c2 bM;generalize az.w'=w9 at *
     ·have I:=κ (show jP b n d x=(b,8) by unfold jP;rw[ai.o,aA.o,aj.o,ag.o,aJ.o,if_neg ζ,if_neg ζ,if_pos hf]);go_wp2;go_ret;exact am.o _ _ I.o ac.o aB.o
     ·go_wp2;go_meet;exact⟨ac.o,ap.o,aB.o,by unfold jP;rw[ai.o,aA.o,aj.o,ag.o,aJ.o,if_neg ζ,if_neg ζ,if_neg τ],τ⟩
    ·have I:=κ (show jP b n d x=(b,9) by unfold jP;rw[ai.o,aA.o,aj.o,ag.o,aJ.o];rfl);go_wp2;go_ret;exact am.o _ _ I.o ah.o af.o
   ·have I:=κ (show jP b n d x=(b,10) by unfold jP;rw[ai.o,aA.o,aj.o,ag.o];rfl);go_wp2;go_ret;exact am.o _ _ I.o ah.o af.o
  ·have I:=κ (show jP b n d x=(b,10) by unfold jP;rw[ai.o];rfl)
   go_wp2_with (go_at_call 150;(go_call xt _ _ (λk=>k.1==n) aq b.holds _ (R+1) _ aa.o.row av.o as aI w2 ⟨rfl,J⟩;rw[bd.o];have N:=κ (aa.o.on J);have aw:=κ (qc J aP.o);have ay:=κ (aQ.o.trans J);clear J))
   go_ret;exact am.o _ _ I.o N.o ay.o
 case rest=>
 obtain⟨bb,aN,aW,aS,bC⟩:=hcut;have ac:=κ bb;have ap:=κ aN;have aB:=κ aW;have I:=κ aS;have bz:Hid (b.holds.length<=8):=κ (bN.o.resolve_left τ);obtain⟨_,_,aI,_,_,_⟩:=ac.o.cells ⟨_,qa.refl _⟩;have bo:Hid (ZA 218 #[γ w.heap.size] (λk=>decide (n<k.1)) b.holds wc):=κ λaG y _ m=>Wp n _ y aG (qc m ap.o)
 clear bb aN aW aS bC c2 av aq;have aV:=κ (wJ _ _ (λk=>decide (n<k.1)) br b.holds _ (R+1) _ ac.o.row bo.o);obtain⟨bt,aF⟩:=ν (Jk (λk=>decide (n<k.1)) b.holds);rw[aF] at aV;have aO:=κ aF;clear aF
 go_upto_region 12 with (go_at_call 189;(go_call aV.o as bf w10 ⟨rfl,ak⟩;have Y:=κ (ac.o.on ak);have bE:=κ (qc ak ap.o);have aM:=κ (aB.o.trans ak);obtain⟨_,_,bf,_,_,_⟩:=Y.o.cells ⟨_,qa.refl _⟩;clear ak aI))
 obtain⟨cb,bi⟩:=ν (decide (bt<0));have bP:=κ bi;clear bi
 go_upto_if 62 with fail
 go_cut [13] from 63 to 82 (λv M=>v= ι (atJ b.holds n:Int)/\w10=M)
 case first=>
  rcases Fx b.holds n with ⟨O,ae⟩ | ⟨O,ae⟩
  ·rw[aO.o] at O;subst O;have bY: ¬((atJ b.holds n:Nat):Int)<0:=by omega
   go_wp2;go_meet;exact⟨rfl,rfl⟩
  ·rw[aO.o] at O;subst O;have N:=κ ae;clear ae;go_wp2;go_meet;exact⟨by rw[N.o],rfl⟩
 case rest=>
 obtain⟨rfl,rfl⟩:=hcut
 go_upto_region 14 with fail
 have bh:(δ G b.holds.length cap).ownBlock≠some R:=λe=>by have:=(Y.o.row.own_ge e).1;omega
 have bL:(δ G b.holds.length cap).ownBlock≠some w.heap.size:=bv.o;have c2:=λ(x:qz (λk=>(δ G b.holds.length cap).ownBlock=some k) w10)=>β2 (x.h.blk Y.o.blk bh)
 have bj:=λ(x:qz (λk=>(δ G b.holds.length cap).ownBlock=some k) w10)=>β0 (x.h.blk bE.o bL)
 clear bf;refine QN (λk=>(δ G b.holds.length cap).ownBlock=some k) w10 14 15 [10,11,12,14] ?_
 refine Qs ?_
 (refine Ql ?_;intro K H)
 have ax:qa w10 ((w10.drewN 1).alloc (.cells #[ι n,ι d,ι x] 282)):=(qa.drewN w10 1).al _;have aR:qg (λk=>(δ G b.holds.length cap).ownBlock=some k) w10 ((w10.drewN 1).alloc (.cells #[ι n,ι d,ι x] 282)):=qg.of_more ax;refine⟨qi aR,H _ _ ?_⟩;clear H K
 (refine Ql ?_;intro K H)
 have bF:Vh b.holds (n,d,x) (δ G b.holds.length cap) (R+1) ((w10.drewN 1).alloc (.cells #[ι n,ι d,ι x] 282)) w10.heap.size:=⟨Y.o.row.more ax,by have:=aM.o.size;have:=ax.size;have:=aT.o;omega,by have:=bz.o;omega,qC (w:=w10.drewN 1) rfl,λe=>by have:=(Y.o.row.own_ge e).2;omega⟩;refine(Wk b.holds (atJ b.holds n) (Ua _ _) (n,d,x) _ (R+1) _ _ bF).mono ?_;rintro e bH ⟨v',rfl,bp,bu,bI⟩;have ad:=aR.trans bu;have aX:zT bH (R+1) v' (ue b.holds (n,d,x)):=by
  unfold ue;exact bp
 have bJ:v'.ownBlock=(δ G b.holds.length cap).ownBlock∨ ∃g,v'.ownBlock=some g/\w.heap.size<=g:=bI.elim Or.inl λh=>Or.inr ⟨_,h,by have:=aM.o.size;have:=ax.size;omega⟩
 obtain⟨bR,ca,rfl,_⟩:=aX.shape;refine⟨_,rfl,qi ad,H _ _ ?_⟩;clear H K
 (refine Ql ?_;intro K H)
 refine⟨qi ad,H _ _ ?_⟩;clear H K
 iterate 1 (refine qE rfl rfl (qi ad) ?_;intro K H;go_big_quiet_op;go_big_quiet_on)
 have bk:=ad.blk Y.o.blk bh;have aC:=qb bk 2 rfl;have bU:=qd bk 2
 (refine Qe ?_;intro K H)
 refine H _ _ ?_;clear H K;refine qA ?_;go_wp2;go_ret;exact⟨by rw[I.o];rfl,_,by rw[I.o];exact Bl Y.o aM.o aT.o ad aX bJ⟩
theorem Ce (L:List Hd) (h:Hd):(ue L h).length=L.length+1:=by
 unfold ue;have:=Ua L h.1;rw[List.length_append,List.length_cons,List.length_take,List.length_drop];omega
theorem Xl (L:List Hd) (h k:Hd):k∈ue L h↔k=h∨k∈L:=by
 unfold ue;rw[List.mem_append,List.mem_cons]
 conv=>rhs;rw[<-List.take_append_drop (atJ L h.1) L,List.mem_append]
 constructor
 ·rintro(a | a | a)
  ·exact Or.inr (Or.inl a)
  ·exact Or.inl a
  ·exact Or.inr (Or.inr a)
 ·rintro(a | a | a)
  ·exact Or.inr (Or.inl a)
  ·exact Or.inl a
  ·exact Or.inr (Or.inr a)
theorem PD (k:Hd) (L:List Hd) (h:Hd):ue (k::L) h=if h.1<k.1 then h::k::L else k::ue L h:=by
 unfold ue atJ;rw[List.findIdx_cons];by_cases e:h.1<k.1
 ·simp[e]
 ·simp[e]
theorem ZU: ∀(L:List Hd) (h:Hd),(L.Pairwise λa c=>a.1<c.1)->(∀k∈L,¬k.1=h.1)->(ue L h).Pairwise λa c=>a.1<c.1
 | [],h,_,_=>by simp[ue,atJ]
 | k::L,h,hp,hn=>by
  rw[List.pairwise_cons] at hp;rw[PD];by_cases e:h.1<k.1
  ·rw[if_pos e,List.pairwise_cons,List.pairwise_cons];refine⟨λc d=> ?_,hp.1,hp.2⟩;rcases List.mem_cons.1 d with rfl | d
   ·exact e
   ·exact Int.lt_trans e (hp.1 c d)
  ·rw[if_neg e,List.pairwise_cons];have:=hn k List.mem_cons_self;refine⟨λc d=> ?_,ZU L h hp.2 λc d=>hn c (List.mem_cons_of_mem _ d)⟩;rcases(Xl L h c).1 d with rfl | d
   ·omega
   ·exact hp.1 c d
theorem GF (b:Jb) (n:Int):JM b n=false↔ ∀k∈b.holds,¬k.1=n:=by
 unfold JM;rw[List.any_eq_false];constructor
 ·intro h k d e;exact h k d (by simpa using e)
 ·intro h k d e;exact h k d (by simpa using e)
theorem Uz (b:Jb) (n d x:Int):((jP b n d x).1=b/\(jP b n d x).2≠0)∨
  (jP b n d x=({b with holds:=ue b.holds (n,d,x)},0)/\JM b n=false/\(b.begun=true->b.hi<n)/\(b.holds.length:Int)<b.room):=by
 unfold jP;by_cases h1:(JM b n||(b.begun&&yi b.hi b.bits n))=true
 ·rw[if_pos h1];exact Or.inl ⟨rfl,show (10:Int)≠0 by decide⟩
 ·rw[if_neg h1];by_cases h2:(b.begun&&decide (n<b.hi+1))=true
  ·rw[if_pos h2];exact Or.inl ⟨rfl,show (9:Int)≠0 by decide⟩
  ·rw[if_neg h2];by_cases h3:b.room<=b.holds.length
   ·rw[if_pos h3];exact Or.inl ⟨rfl,show (8:Int)≠0 by decide⟩
   ·rw[if_neg h3];refine Or.inr ⟨rfl, ?_, ?_,τ⟩
    ·cases hs:JM b n with
     | false=>rfl
     | true=>rw[hs] at h1;simp at h1
    ·intro G;rw[G] at h2;simp at h2;omega
theorem Eu {b:Jb} (d:JOK b) {n H x:Int} (J:xz n) (M:xz H):JOK (jP b n H x).1:=by
 rcases Uz b n H x with ⟨h,_⟩ | ⟨h,N,O,U⟩
 ·rw[h];exact d
 ·rw[h];refine⟨d.room,d.wait, ?_,λk G=> ?_,ZU _ _ d.rise ((GF b n).1 N),d.hi,d.bits,λI k G=> ?_⟩
  ·show ((ue b.holds (n,H,x)).length:Int)<=b.room;rw[Ce];omega
  ·rcases(Xl _ _ k).1 G with rfl | G
   ·exact⟨J,M⟩
   ·exact d.nums k G
  ·rcases(Xl _ _ k).1 G with rfl | G
   ·exact O I
   ·exact d.over I k G
theorem VL {b:Jb} (d:JOK b) {h:Hd} {T:List Hd} (G:b.holds=h::T):JOK (xT b):=by
 have N:=d.nums h (by rw[G];exact List.mem_cons_self);have I:=d.rise;rw[G,List.pairwise_cons] at I;have e:xT b={b with holds:=T,begun:=true,hi:=(wK b h.1).1,bits:=(wK b h.1).2}:=by unfold xT;rw[G]
 have J:(wK b h.1).1=h.1:=by
  unfold wK;split
  ·rename_i M;rw[QD];have:=d.over M h (by rw[G];exact List.mem_cons_self);omega
  ·rfl
 rw[e];refine⟨d.room,d.wait, ?_,λk H=>d.nums k (by rw[G];exact List.mem_cons_of_mem _ H),I.2, ?_, ?_,λ_ k H=> ?_⟩
 ·have:=d.fits;rw[G,List.length_cons] at this;show ((T.length:Nat):Int)<=b.room;omega
 ·show xz (wK b h.1).1;rw[J];exact N.1
 ·show U64 (wK b h.1).2;unfold wK;split
  ·exact VG _ _ _ d.bits
  ·exact(show U64 1 from ⟨ζ,ζ⟩)
 ·show (wK b h.1).1<k.1;rw[J];exact I.1 k H
def yD (b:Jb) (now:Int):Jb×Int×Int×Bool:=match b.holds with
 | []=>(b,0,0,false)
 | h::_=>if xa b now then (xT b,h.1,h.2.2,true) else (b,0,0,false)
theorem FJ (b:Jb) (ae:JOK b) (R:Nat) (v:Value) (d:Int) (aj:xz d) (w:World) (N:xZ w R v b):
  Calls prog 138 #[γ R,ι d] w λe w'=>e= .returned (.tuple #[ι (yD b d).2.1,ι (yD b d).2.2.1,μ (yD b d).2.2.2])/\ ∃v',kc w w' R v v' (yD b d).1:=by
 have ac:=κ N;have ab:=κ (Z7 b ae R v d aj w N);cases hr:xa b d with
 | false=>
  have H:yD b d=(b,0,0,false):=by
   unfold yD;cases b.holds with
   | nil=>rfl
   | cons h T=>simp only[hr];rfl
  rw[H];have O:=κ hr;clear H hr N
  go_enter func138,ntmps138
  go_wp2_with (go_at_call 101;(go_call ab.o as e w1 ⟨rfl,G⟩;rw[O.o];have J:=κ G;clear G))
  refine bodyPost_ret (v:= .tuple #[ι 0,ι 0,false]) (by simp[results,results138,go_sem]) rfl ?_;exact⟨rfl,v,kc.keep J.o (ac.o.on J.o)⟩
 | true=>
  obtain⟨h,T,I⟩: ∃h T,b.holds=h::T:=by
   cases I:b.holds with
   | nil=>unfold xa at hr;rw[I] at hr;cases hr
   | cons h T=>exact⟨h,T,rfl⟩
  have H:yD b d=(xT b,h.1,h.2.2,true):=by
   unfold yD;rw[I];simp only[hr];rfl
  rw[H];have O:=κ hr;have ah:=κ I;clear H hr N I
  go_enter func138,ntmps138
  go_wp2_with (first | (go_at_call 101;(go_call ab.o as e w1 ⟨rfl,G⟩;rw[O.o];have J:=κ G;have ag:=κ (ac.o.on G);clear G)) | (go_at_call 164;(go_call Z9 b h T ah.o ae R v _ ag.o as e w2 ⟨rfl,v2,st⟩;have Y:=κ st;clear st)))
  obtain⟨W,M⟩: ∃W,W=w2.alloc (.cells #[ι h.1,ι h.2.1,ι h.2.2] 282):=⟨_,rfl⟩;have aa:W.heap[w2.heap.size]? =some (.cells #[ι h.1,ι h.2.1,ι h.2.2] 282 (0,0)):=by rw[M];exact qj w2 _
  have ad:qa w2 W:=by rw[M];exact qa.alloc w2 _
  have U:=λ(x:qt W)=>qc x.h aa
  have am:=λx=>β0 (U x);have c2:=λx=>β2 (U x);clear U
  have ak:=κ ad;rw[<-M];clear M aa ad;generalize w2.heap.size=BX at *;refine qD W (qa.refl _) ξ ξ ?_
  repeat (go_big_quiet_step (fail))
  refine wpQuiet_nil ?_;intro _ af;obtain⟨al,rfl⟩:=af;go_wp2;refine bodyPost_ret (v:= .tuple #[ι h.1,ι h.2.2,true]) (by simp[results,results138,go_sem]) rfl ?_;have m:=ak.o.trans al.h;refine⟨rfl,v2,Y.o.buf.on m, ?_, ?_⟩
  ·exact qg.old J.o (Y.o.away.more m) λk ai=>Or.inl ai
  ·exact Y.o.own.elim Or.inl λ⟨g,a,c⟩=>Or.inr ⟨g,a,Nat.le_trans J.o.size c⟩
def gt (room wait:Int):Prop:=1<=room/\room<=8/\0<=wait/\wait<=1000
instance (r w:Int):Decidable (gt r w):=by unfold gt;infer_instance
def CU (room wait:Int):Jb:=⟨room,wait,[],false,0,0⟩
theorem EJ {room d:Int} (h:gt room d):JOK (CU room d):=
 ⟨⟨h.1,h.2.1⟩,⟨h.2.2.1,h.2.2.2⟩,(by show ((0:Nat):Int)<=room;have:=h.1;omega),λk G=>(by cases G),List.Pairwise.nil,(show xz 0 from ⟨ζ,ζ⟩),(show U64 0 from ⟨ζ,ζ⟩),λe=>(by cases e)⟩
theorem Lq (room d:Int) (w:World) (h: ¬gt room d):
  Calls prog 36 #[ι room,ι d] w λe w'=>e= .returned (.tuple #[π none,ι 1])/\w=w':=by
 by_cases h1:room<1
 ·clear h
  go_enter func36,ntmps36
  go_wp2
  go_ret2
  exact⟨rfl,rfl⟩
 ·by_cases h2:8<room
  ·clear h
   go_enter func36,ntmps36
   go_wp2
   go_ret2
   exact⟨rfl,rfl⟩
  ·by_cases h3:d<0
   ·clear h
    go_enter func36,ntmps36
    go_wp2
    go_ret2
    exact⟨rfl,rfl⟩
   ·have G:1000<d:=by unfold gt at h;omega
    clear h
    go_enter func36,ntmps36
    go_wp2
    go_ret2
    exact⟨rfl,rfl⟩
theorem YM (room d:Int) (w:World) (h:gt room d):
  Calls prog 36 #[ι room,ι d] w λe w'=>e= .returned (.tuple #[γ w.heap.size,ι 0])/\xZ w' w.heap.size (δ none 0 0) (CU room d)/\qa w w'/\w.heap.size<w'.heap.size:=by
 obtain⟨J,I,H,G⟩:=h;have M: ¬room<1:=by omega
 have O: ¬8<room:=by omega
 have U: ¬d<0:=by omega
 have N: ¬1000<d:=by omega
 clear J I H G
 go_enter func36,ntmps36
 go_wp2
 go_ret2
 exact⟨rfl,⟨qj w _,World.ownsRow_nil _ _ _ _⟩,qa.alloc w _,η⟩
theorem UI {w w':World} {base e size n:Nat} {v:Value} {xs:List Value} {S:Nat->Prop} (h:w.ownsRow base e size v n xs) (a:qg S w w') (G: ∀k,v.ownBlock=some k-> ¬S k):w'.ownsRow base e size v n xs:=by
 obtain⟨d,H⟩:=h;refine⟨d, ?_⟩;rcases H with h | ⟨g,cap,cur,e1,hb,hg,rest⟩
 ·exact Or.inl h
 ·exact Or.inr ⟨g,cap,cur,e1,hb,a.blk hg (G g (by rw[e1];rfl)),rest⟩
structure DrJ (w0 wr:World) (R:Nat) (v0 v:Value) (b:Jb) (v3:Value) (A:List Int):Prop where
 buf:xZ wr R v b
 ok:JOK b
 row:wr.ownsRow w0.heap.size 3 1 v3 A.length (A.map (Value.int .i64))
 away:qg (λk=>k=R∨v0.ownBlock=some k) w0 wr
 own:v.ownBlock=v0.ownBlock∨ ∃g,v.ownBlock=some g/\w0.heap.size<=g
 sep: ∀k,v3.ownBlock=some k->v.ownBlock≠some k
theorem DrJ.step {H wr w':World} {R:Nat} {v0 v v3 v':Value} {b:Jb} {A:List Int} {h:Hd} {T:List Hd} (G:DrJ H wr R v0 v b v3 A) (N:R<H.heap.size) (J:b.holds=h::T) (st:kc wr w' R v v' (xT b)):DrJ H w' R v0 v' (xT b) v3 A:=by
 have M: ∀k,v3.ownBlock=some k->H.heap.size<=k/\k<wr.heap.size:=λk d=>by
  rcases G.row.2 with ⟨rfl,_⟩ | ⟨g,cap,cur,rfl,J,I,_⟩
  ·cases d
  ·obtain rfl:g=k:=by injection d
   exact⟨J,lt_of_block I⟩
 refine⟨st.buf,VL G.ok J,UI G.row st.away λk d x=> ?_, ?_, ?_,λk d e=> ?_⟩
 ·rcases x with x | x
  ·have:=(M k d).1;omega
  ·exact G.sep k d x
 ·have a:qg (λk=>(k=R∨v0.ownBlock=some k)∨H.heap.size<=k) H w':=(G.away.mono λk d=>Or.inl d).trans (st.away.mono λk d=>by
   rcases d with d | d
   ·exact Or.inl (Or.inl d)
   ·rcases G.own with e | ⟨g,e,I⟩
    ·exact Or.inl (Or.inr (by rw[<-e];exact d))
    ·rw[e] at d;injection d with d
     exact Or.inr τ)
  exact qg.old (qa.refl H) a λk d=>d
 ·rcases st.own with e | ⟨g,e,I⟩
  ·rw[e];exact G.own
  ·exact Or.inr ⟨g,e,Nat.le_trans G.away.size I⟩
 ·rcases st.own with e2 | ⟨g,e2,I⟩
  ·rw[e2] at e;exact G.sep k d e
  ·rw[e2] at e;injection e with e
   have:=(M k d).2;omega
theorem DrJ.on {G wr w':World} {R:Nat} {v0 v v3:Value} {b:Jb} {A:List Int} (d:DrJ G wr R v0 v b v3 A) (m:qa wr w'):DrJ G w' R v0 v b v3 A:=
 ⟨d.buf.on m,d.ok,jE d.row m,d.away.more m,d.own,d.sep⟩
theorem DrJ.put {H wr w':World} {R:Nat} {v0 v v3 J:Value} {b:Jb} {A A':List Int} (G:DrJ H wr R v0 v b v3 A) (ab:R<H.heap.size) (O:w'.ownsRow H.heap.size 3 1 J A'.length (A'.map (Value.int .i64))) (I:wr.grownBy w' v3.ownBlock) (Y:J.ownBlock=v3.ownBlock∨J.ownBlock=some wr.heap.size):DrJ H w' R v0 v b J A':=by
 have M: ∀k,v3.ownBlock=some k->H.heap.size<=k:=λk d=>by
  rcases G.row.2 with ⟨rfl,_⟩ | ⟨g,cap,cur,rfl,U,I,_⟩
  ·cases d
  ·obtain rfl:g=k:=by injection d
   exact U
 have a:qg (λk=>v3.ownBlock=some k) wr w':=⟨I.os,I.tape,I.output,I.size,λk d aa=>I.block k d (λe=>aa e.symm)⟩;refine⟨⟨a.blk G.buf.blk λx=>by have:=M R x;omega,G.buf.row.away a λk d x=>G.sep k x d⟩,G.ok,O, ?_,G.own,λk d e=> ?_⟩
 ·have N:qg (λk=>(k=R∨v0.ownBlock=some k)∨H.heap.size<=k) H w':=(G.away.mono λk d=>Or.inl d).trans (a.mono λk d=>Or.inr (M k d));exact qg.old (qa.refl H) N λk d=>d
 ·rcases Y with e2 | e2
  ·rw[e2] at d;exact G.sep k d e
  ·rw[e2] at d;injection d with d
   have:=(G.buf.row.own_ge e).2;omega
def Lz:Value->Nat
 | .slice _ n _=>n
 | _=>0
theorem XA {w:World} {base e size n:Nat} {v:Value} {xs:List Value} (h:w.ownsRow base e size v n xs): ∃oa cap,v= δ oa n cap:=by
 rcases h.2 with ⟨rfl,d⟩ | ⟨g,cap,cur,rfl,_⟩
 ·exact⟨none,0,by rw[d]⟩
 ·exact⟨_,cap,rfl⟩
def Qr:Nat->Jb->Jb
 | 0,b=>b
 | n+1,b=>Qr n (xT b)
def vP (b:Jb):Jb:=Qr b.holds.length b
def thJ (L:List Hd):List Int:=L.map λh=>h.2.2
theorem Wn (b:Jb) (ok:JOK b) (R:Nat) (v:Value) (w:World) (J:xZ w R v b):
  Calls prog 131 #[γ R] w λe w'=> ∃vx,e= .returned vx/\ ∃v',DrJ w w' R v v' (vP b) vx (thJ b.holds)/\(vP b).holds=[]:=by
 have aa:=lt_of_block J.blk;obtain⟨aq,hi,an,aj,ah⟩:=info_parts (P:=prog) (e:=3) (z:= ι 0) (size:=1) (bytes:=8) ξ;have ao:Hid (b.holds.length<=8):=κ (by have:=ok.fits;have:=ok.room;omega);have am:Hid (DrJ w w R v v b (δ none 0 0) []):=κ ⟨J,ok,World.ownsRow_nil _ _ _ _,qg.refl _ _,Or.inl rfl,λk ai=>by cases ai⟩;clear J
 go_enter func131,ntmps131
 go_wp2
 go_loopw [3] (λv3 wr=> ∃v' d A,DrJ w wr R v v' d v3 A/\A++thJ d.holds=thJ b.holds/\Qr d.holds.length d=vP b) (λv3 _=>b.holds.length-Lz v3)
 case atStart=>exact⟨v,b,[],am.o,rfl,rfl⟩
 case round=>
  obtain⟨v',d,A,H,O,af⟩:=hrel;have ad:=κ af;clear af;have I:=κ H;have ac:=κ O;obtain⟨_,_,c2,_,_,_⟩:=H.buf.cells ⟨wr,qa.refl _⟩;obtain⟨aw,cap,rfl,ax⟩:=H.buf.row.shape;obtain⟨av,c3,rfl⟩:=XA H.row;have ap:A.length+d.holds.length=b.holds.length:=by
   have:=congrArg List.length O;unfold thJ at this;rw[List.length_append,List.length_map,List.length_map] at this;exact this
  have U:=κ ap;clear H O;cases hb:d.holds with
  | nil=>
   have G:=κ hb;rw[hb,List.length_nil] at c2;clear hb;have ag:Hid (A=thJ b.holds):=κ (by have:=ac.o;rw[G.o] at this;simpa [thJ] using this);go_wp2;go_ret;have Y:d=vP b:=by have:=ad.o;rw[G.o] at this;exact this
   exact⟨_,rfl,⟨_,by rw[<-ag.o,<-Y];exact I.o⟩,by rw[<-Y];exact G.o⟩
  | cons h T=>
   have G:=κ hb;have az:(0:Int)<(d.holds.length:Int):=by rw[hb];simp
   clear hb;have al:=κ (Z9 d h T G.o I.o.ok R _ wr I.o.buf);have ay: ∀w2,(Instr.field 282 (θ #[ι h.1,ι h.2.1,ι h.2.2]) 2).run prog w2= .ok (ι h.2.2) w2:=λw2=>by kernel_rfl
   go_wp2_with (first | (go_at_call 164;(go_call al.o as e w2 ⟨rfl,v2,st⟩;have M:=κ (I.o.step aa G.o st);clear st c2)) | (at_builtin;refine qU _ rfl (.tmp 10) (.tmp 14) 75 rfl w.heap.size 3 aq (ι 0) 8 underlying75 hi an aj ah rfl _ .i64 A rfl (M.o.on (qa.alloc _ _)).row _ [h.2.2] rfl (SlI.lit .i64 w2 [h.2.2] 3 _ 1 _ rfl rfl rfl η) (by have:=ao.o;have:=U.o;simp only[List.length_cons,List.length_nil];omega) ζ (by have:=M.o.away.size;simp;omega) ?_;intro v5 w5 N ae ab;have ak:=κ ((M.o.on (qa.alloc _ _)).put aa N ae ab);obtain⟨au,ar,rfl⟩:=XA N;clear N ae ab))
   go_roundw
   case rel=>exact⟨v2,xT d,A++[h.2.2],(by have:=ak.o;rw[List.length_append] at this;exact this),by rw[show (xT d).holds=T by unfold xT;rw[G.o]];have:=ac.o;rw[G.o] at this;rw[<-this];simp[thJ],by rw[show (xT d).holds=T by unfold xT;rw[G.o]];have:=ad.o;rw[G.o] at this;exact this⟩
   case measure=>have:=U.o;rw[G.o] at this;simp[Lz] at *;omega
section
open Go.RowKit Go.ChangeMaps
section
variable {K V:Type} [DecidableEq K] {P:Program}
def yx (k:K):List (K×V)->Nat->Option (Nat×V)
 | [],_=>none
 | (a,v)::l,i=>if k=a then some (i,v) else yx k l (i+1)
def qh:List (K×V)->K->Option V
 | [],_=>none
 | (a,v)::l,k=>if k=a then some v else qh l k
def qx:List (K×V)->K->V->List (K×V)
 | [],k,v=>[(k,v)]
 | (a,b)::l,k,v=>if k=a then (k,v)::l else (a,b)::qx l k v
def yK:List (K×V)->K->List (K×V)
 | [],_=>[]
 | (a,b)::l,k=>if k=a then l else (a,b)::yK l k
theorem kQ {k:K} {v:V}: ∀{L:List (K×V)} {i j:Nat},yx k L j=some (i,v)->j<=i/\L[i-j]? =some (k,v)/\qh L k=some v/\yK L k=L.eraseIdx (i-j)/\ ∀u,qx L k u=L.set (i-j) (k,u)
 | [],_,_,h=>by simp[yx] at h
 | (a,b)::l,i,j,h=>by
  unfold yx at h;by_cases e:k=a
  ·rw[if_pos e] at h;cases h;subst e;simp[qh,yK,qx]
  ·rw[if_neg e] at h;obtain⟨M,J,H,G,I⟩:=kQ h;have d:i-j=(i-(j+1))+1:=by omega
   refine⟨τ,by rw[d];simpa using J,by simp[qh,e,H],by rw[d];simp[yK,e,G],λu=>by rw[d];simp[qx,e,I]⟩
theorem kR {k:K}: ∀{L:List (K×V)} {j:Nat},yx k L j=none->qh L k=none/\yK L k=L/\k∉L.map Prod.fst/\ ∀u,qx L k u=L++[(k,u)]
 | [],_,_=>by simp[qh,yK,qx]
 | (a,b)::l,j,h=>by
  unfold yx at h;by_cases e:k=a
  ·rw[if_pos e] at h;cases h
  ·rw[if_neg e] at h;obtain⟨G,H,d,I⟩:=kR h;refine⟨by simp[qh,e,G],by simp[yK,e,H],by simp[e] at d ⊢;exact d,λu=>by simp[qx,e,I]⟩
theorem Pu (k:K) (L:List (K×V)) (j:Nat):(yx k L j).map (·.2)=qh L k:=by
 cases h:yx k L j with
 | none=>simp[(kR h).1]
 | some x=>obtain⟨i,v⟩:=x;simp[(kQ h).2.2.1]
structure yz (P:Program) (kt:TypeId) (ke:K->Value):Prop where
 look: ∀(V:Type) (ve:V->Value) (k:K) (L:List (K×V)) (es:List MapEntry) (w:World),es.map (λe=>(e.key,e.val))=L.map (λp=>(ke p.1,ve p.2))->(Instr.findKey kt (ke k) es).run P w= .ok ((yx k L 0).map λx=>(x.1,ve x.2)) w
 check: ∀b k w,(Instr.checkKey b 10000 kt (ke k)).run P w= .ok () w
 same: ∀k,Instr.sameBits 10000 (ke k) (ke k)=true
theorem Ja {ke:K->Value} {d:V->Value} {G:TypeDesc} (h: ∀a b,Instr.sameNow G (ke a) (ke b)=some (decide (a=b))) (k:K): ∀(L:List (K×V)) (es:List MapEntry) (i:Nat),
  es.map (λe=>(e.key,e.val))=L.map (λp=>(ke p.1,d p.2))->Instr.findNow G (ke k) es i=some ((yx k L i).map λx=>(x.1,d x.2))
 | [],[],_,_=>rfl
 | [],_::_,_,e=>by simp at e
 | _::_,[],_,e=>by simp at e
 | (a,v)::l,x::es,i,e=>by
  simp only[List.map_cons,List.cons.injEq,Prod.mk.injEq] at e;unfold Instr.findNow yx;rw[e.1.1,h];by_cases hk:k=a
  ·simp[hk,e.1.2]
  ·simp[hk,Ja h k l es (i+1) e.2]
omit [DecidableEq K] in
theorem UT {ke:K->Value} {G:V->Value} {d:TypeDesc} (h: ∀a b,Instr.sameNow d (ke a) (ke b)=none) (k:K): ∀(L:List (K×V)) (es:List MapEntry) (i:Nat),
  es.map (λe=>(e.key,e.val))=L.map (λp=>(ke p.1,G p.2))->Instr.findNow d (ke k) es i=if L=[] then some none else none
 | [],[],_,_=>rfl
 | [],_::_,_,e=>by simp at e
 | _::_,[],_,e=>by simp at e
 | (a,v)::l,x::es,i,e=>by
  simp only[List.map_cons,List.cons.injEq,Prod.mk.injEq] at e;unfold Instr.findNow;rw[e.1.1,h];simp
theorem uL {ke:K->Value} {d:V->Value} {G:TypeId} {w:World} (h: ∀a b,(Op.equal G (ke a) (ke b)).run P w= .ok (decide (a=b)) w) (k:K): ∀(L:List (K×V)) (es:List MapEntry) (i:Nat),
  es.map (λe=>(e.key,e.val))=L.map (λp=>(ke p.1,d p.2))->(Instr.findAsking G (ke k) es i).run P w= .ok ((yx k L i).map λx=>(x.1,d x.2)) w
 | [],[],_,_=>rfl
 | [],_::_,_,e=>by simp at e
 | _::_,[],_,e=>by simp at e
 | (a,v)::l,x::es,i,e=>by
  simp only[List.map_cons,List.cons.injEq,Prod.mk.injEq] at e;unfold Instr.findAsking yx;rw[Sem.run_bind,e.1.1,h];by_cases hk:k=a
  ·simp[hk,Result.andThen,e.1.2,Sem.run,pure]
  ·simp[hk,Result.andThen,uL h k l es (i+1) e.2]
theorem yz.of_now {d:TypeId} {ke:K->Value} {G:TypeDesc} (I:P.underlying d=some G) (h: ∀a b,Instr.sameNow G (ke a) (ke b)=some (decide (a=b)))
  (H: ∀b k w,(Instr.checkKey b 10000 d (ke k)).run P w= .ok () w) (M: ∀k,Instr.sameBits 10000 (ke k) (ke k)=true):yz P d ke:=
 ⟨λV N k L J w e=>by
  unfold Instr.findKey;rw[Sem.run_bind,run_underlying I]
  simp[Result.andThen,Ja h k L J 0 e,Sem.run,pure],H,M⟩
theorem yz.of_ask {d:TypeId} {ke:K->Value} {G:TypeDesc} (M:P.underlying d=some G) (h: ∀a b,Instr.sameNow G (ke a) (ke b)=none) (I: ∀a b w,(Op.equal d (ke a) (ke b)).run P w= .ok (decide (a=b)) w)
  (J: ∀b k w,(Instr.checkKey b 10000 d (ke k)).run P w= .ok () w) (N: ∀k,Instr.sameBits 10000 (ke k) (ke k)=true):yz P d ke:=
 ⟨λV O k L H w e=>by
  unfold Instr.findKey;rw[Sem.run_bind,run_underlying M];simp only[Result.andThen,UT h k L H 0 e];by_cases hL:L=[]
  ·subst hL;simp[yx,Sem.run,pure]
  ·simp[hL,uL (λa b=>I a b w) k L H 0 e],J,N⟩
structure jk (w:World) (b:Nat) (ke:K->Value) (ve:V->Value) (L:List (K×V)):Prop where
 ex: ∃es clock,w.heap[b]? =some (.map es clock)/\es.toList.map (λe=>(e.key,e.val))=L.map (λp=>(ke p.1,ve p.2))/\(es.toList.map (·.born)).Nodup/\ ∀e∈es.toList,e.born<clock
 keys:(L.map Prod.fst).Nodup
variable {w:World} {b:Nat} {ke:K->Value} {ve:V->Value} {L:List (K×V)}
omit [DecidableEq K] in
theorem jk.lt (h:jk w b ke ve L):b<w.heap.size:=by obtain⟨⟨_,_,d,_⟩,_⟩:=h;exact lt_of_block d
omit [DecidableEq K] in
theorem jk.made (w:World) (ke:K->Value) (d:V->Value):jk (w.alloc (.map #[] 0)) w.heap.size ke d []:=
 ⟨⟨#[],0,qj _ _,rfl,η,η⟩,η⟩
omit [DecidableEq K] in
theorem jk.away {w':World} {S:Nat->Prop} (h:jk w b ke ve L) (m:qg S w w') (d: ¬S b):jk w' b ke ve L:=by
 obtain⟨⟨G,c,H,r⟩,k⟩:=h;exact⟨⟨G,c,m.blk H d,r⟩,k⟩
omit [DecidableEq K] in
theorem jk.more {w':World} (h:jk w b ke ve L) (m:qa w w'):jk w' b ke ve L:=h.away (qg.of_more (S:=λ_=>False) m) (λx=>x)
theorem yf {w:World} {b:Nat} {G:Array MapEntry} {c:Nat} (H:w.heap[b]? =some (.map G c)) (d:Obj):(setObj b d).run P w= .ok () (setBlock w b d):=by
 simp[setObj,Sem.run,H,setBlock]
theorem j7 {w:World} {b:Nat} {d:Array MapEntry} {c:Nat} (G:w.heap[b]? =some (.map d c)):(getObj b).run P w= .ok (.map d c) w:=by
 simp[getObj,Sem.run,G]
theorem zG (w:World) (b:Nat) (o:Obj):qg (λx=>x=b) w (setBlock w b o):=
 ⟨rfl,rfl,rfl,by simp[setBlock],λk _ d=>by
  simp only[setBlock]
  rw[Array.getElem?_setIfInBounds_ne (λe=>d e.symm)]⟩
theorem zD (w:World) (b:Nat) (o:Obj):(setBlock w b o).heap.size=w.heap.size:=by simp[setBlock]
theorem jk.look {I N t:TypeId} {z:Value} (h:jk w b ke ve L) (H:yz P I ke) (M:P.underlying t=some (.map I N)) (O:(zeroValue N).run P w= .ok z w) (k:K) (c:Bool):
  (Instr.lookup t (.map (some b)) (ke k) c).run P w= .ok (if c then .tuple #[((qh L k).map ve).getD z,μ (qh L k).isSome] else ((qh L k).map ve).getD z) w:=by
 obtain⟨⟨Y,aa,J,U,_⟩,_⟩:=h;have d:=H.look V ve k L Y.toList w U;have G:=Pu k L 0;unfold Instr.lookup;cases hq:yx k L 0 with
 | none=>
  rw[hq] at d G;simp only[Option.map_none] at d G;simp[run_underlying M,j7 J,H.check,d,O,<-G,go_sem]
 | some x=>
  rw[hq] at d G;simp only[Option.map_some] at d G;simp[run_underlying M,j7 J,H.check,d,<-G,go_sem]
theorem Jq {d:List MapEntry} {i:Nat} {k v:Value}:(d.modify i λe=>{e with key:=k,val:=v}).map (λe=>(e.key,e.val))=(d.map λe=>(e.key,e.val)).set i (k,v):=by
 induction d generalizing i with
 | nil=>simp
 | cons x l ih=>
  cases i with
  | zero=>simp[List.modify_cons]
  | succ i=>simp[ih]
theorem kA {d:List MapEntry} {i:Nat} {k v:Value}:(d.modify i λe=>{e with key:=k,val:=v}).map (·.born)=d.map (·.born):=by
 induction d generalizing i with
 | nil=>simp
 | cons x l ih=>
  cases i with
  | zero=>simp[List.modify_cons]
  | succ i=>simp[ih]
omit [DecidableEq K] in
theorem XT {k:K} {u:V} {i:Nat} {v:V} (h:L[i]? =some (k,v)):((L.set i (k,u)).map Prod.fst)=L.map Prod.fst:=by
 rw[List.map_set];refine List.ext_getElem? λj=> ?_
 rw[List.getElem?_set];by_cases hj:i=j
 ·subst hj;have hi:i<L.length:=(List.getElem?_eq_some_iff.1 h).1;have e:=(List.getElem?_eq_some_iff.1 h).2;simp[hi,e]
 ·simp[hj]
theorem jk.update {ai au t:TypeId} (h:jk w b ke ve L) (N:yz P ai ke) (ag:P.underlying t=some (.map ai au)) (k:K) (u:V):
  ∃w',(Instr.mapUpdate t (.map (some b)) (ke k) (ve u)).run P w= .ok () w'/\jk w' b ke ve (qx L k u)/\qg (λx=>x=b) w w'/\w'.heap.size=w.heap.size:=by
 obtain⟨⟨G,ac,I,J,af,aa⟩,ae⟩:=h;have H:=N.look V ve k L G.toList w J;unfold Instr.mapUpdate;cases hq:yx k L 0 with
 | none=>
  rw[hq] at H;simp only[Option.map_none] at H;obtain⟨ao,U,ah,M⟩:=kR hq;refine⟨setBlock w b (.map (G.push {key:=ke k,val:=ve u,born:=ac}) (ac+1)), ?_,⟨⟨_,_,heap_setBlock_same I _, ?_, ?_, ?_⟩, ?_⟩,zG _ _ _,zD _ _ _⟩
  ·simp[run_underlying ag,j7 I,N.check,H,yf I,go_sem]
  ·rw[M];simp[J]
  ·simp only[Array.toList_push,List.map_append,List.map_cons,List.map_nil];rw[List.nodup_append];refine⟨af,η,λa Y c O=> ?_⟩;obtain⟨e,d,rfl⟩:=List.mem_map.1 Y;have:=aa e d;simp at O;omega
  ·intro e d;simp at d;rcases d with d | rfl
   ·have:=aa e (by simpa using d);omega
   ·exact Nat.lt_succ_self _
  ·rw[M];rw[List.map_append,List.nodup_append];refine⟨ae,η,λa Y c O=> ?_⟩;simp at O;subst O;intro e;subst e;exact ah Y
 | some x=>
  obtain⟨i,v⟩:=x;rw[hq] at H;simp only[Option.map_some] at H;obtain⟨ao,U,ah,M,ab⟩:=kQ hq;simp only[Nat.sub_zero] at U M ab;have hi:(G.toList.map (λe=>(e.key,e.val)))[i]? =some (ke k,ve v):=by rw[J,List.getElem?_map,U];rfl
  rw[List.getElem?_map] at hi;obtain⟨e0,aq,am⟩:=Option.map_eq_some_iff.1 hi;have ak:G[i]? =some e0:=by simpa using aq
  have ap:e0.key=ke k:=congrArg Prod.fst am;have al:(Instr.keyThatStays (((G[i]?).map (·.key)).getD (ke k)) (ke k)).run P w= .ok (ke k) w:=by
   rw[ak];simp only[Option.map_some,Option.getD_some,ap];unfold Instr.keyThatStays;rw[N.same];rfl
  refine⟨setBlock w b (.map (G.modify i λe=>{e with key:=ke k,val:=ve u}) ac), ?_,⟨⟨_,_,heap_setBlock_same I _, ?_, ?_, ?_⟩, ?_⟩,zG _ _ _,zD _ _ _⟩
  ·simp only[run_underlying ag,j7 I,N.check,H,Sem.run_bind,Result.andThen,al,yf I]
  ·rw[ab,Array.toList_modify,Jq,J,List.map_set]
  ·rw[Array.toList_modify,kA];exact af
  ·intro e d;have ad:e.born∈((G.modify i λe=>{e with key:=ke k,val:=ve u}).toList.map (·.born)):=List.mem_map_of_mem d;rw[Array.toList_modify,kA] at ad;obtain⟨an,ar,aj⟩:=List.mem_map.1 ad;rw[<-aj];exact aa an ar
  ·rw[ab,XT U];exact ae
end
end
section
open Go.RowKit Go.ChangeMaps
set_option linter.unusedSectionVars false
theorem uZ: ∀{l m:List Nat},l.Nodup->l ⊆ m->l.length<=m.length
 | [],_,_,_=>Nat.zero_le _
 | a::t,m,h,hs=>by
  simp only[List.nodup_cons] at h;have d:a∈m:=hs List.mem_cons_self;have H:t ⊆ m.erase a:=λx G=>(List.mem_erase_of_ne (λe=>h.1 (by rw[<-e];exact G))).2 (hs (List.mem_cons_of_mem _ G))
  have I:=uZ h.2 H;rw[List.length_erase_of_mem d] at I;have:=List.length_pos_of_mem d;simp only[List.length_cons];omega
theorem XE: ∀{l m:List Nat},l.Nodup->l ⊆ m->m.length<=l.length->l.Perm m
 | [],m,_,_,hl=>by
  have:m=[]:=List.eq_nil_of_length_eq_zero (by simpa using hl);rw[this]
 | a::t,m,h,hs,hl=>by
  simp only[List.nodup_cons] at h;have d:a∈m:=hs List.mem_cons_self;have H:t ⊆ m.erase a:=λx G=>(List.mem_erase_of_ne (λe=>h.1 (by rw[<-e];exact G))).2 (hs (List.mem_cons_of_mem _ G))
  have I:=XE h.2 H (by rw[List.length_erase_of_mem d];simp at hl;omega);exact(I.cons a).trans (List.perm_cons_erase d).symm
section
variable {K V:Type} [DecidableEq K] {P:Program} {w:World} {b:Nat} {ke:K->Value} {ve:V->Value} {L:List (K×V)}
theorem jk.len {I O t:TypeId} (h:jk w b ke ve L) (M:P.underlying t=some (.map I O)) (d:TypeId):(Builtin.len_ #[t] d #[.map (some b)]).run P w= .ok (ι L.length) w:=by
 obtain⟨⟨N,U,J,G,_⟩,_⟩:=h;have H:N.size=L.length:=by
  have:=congrArg List.length G
  simpa using this
 unfold Builtin.len_;simp[run_underlying M,j7 J,H,goInt,go_sem]
theorem ZO (k:K): ∀(L:List (K×V)),(L.map Prod.fst).Nodup->((yK L k).map Prod.fst).Nodup
 | [],h=>h
 | (a,b)::l,h=>by
  simp only[List.map_cons,List.nodup_cons] at h;unfold yK;split
  ·exact h.2
  ·simp only[List.map_cons,List.nodup_cons];refine⟨λG=>h.1 ?_,ZO k l h.2⟩;obtain⟨x,d,e⟩:=List.mem_map.1 G;rw[<-e];refine List.mem_map_of_mem ?_;clear h G e
   induction l with
   | nil=>exact d
   | cons y l ih=>
    obtain⟨c,H⟩:=y;unfold yK at d;split at d
    ·exact List.mem_cons_of_mem _ d
    ·rcases List.mem_cons.1 d with rfl | d
     ·exact List.mem_cons_self
     ·exact List.mem_cons_of_mem _ (ih d)
theorem jk.drop {Y aj t:TypeId} (h:jk w b ke ve L) (N:yz P Y ke) (ae:P.underlying t=some (.map Y aj)) (k:K) (af:TypeId):
  ∃w',(Builtin.delete_ #[t,Y] af #[.map (some b),ke k]).run P w= .ok (.tuple #[]) w'/\jk w' b ke ve (yK L k)/\qg (λx=>x=b) w w'/\w'.heap.size=w.heap.size:=by
 have aa:=ZO k L h.keys;obtain⟨⟨d,O,H,I,ad,ab⟩,al⟩:=h;have G:=N.look V ve k L d.toList w I;unfold Builtin.delete_;cases hq:yx k L 0 with
 | none=>
  rw[hq] at G;simp only[Option.map_none] at G;obtain⟨ah,J,ak,M⟩:=kR hq;refine⟨setBlock w b (.map d O), ?_,⟨⟨d,O,heap_setBlock_same H _,by rw[J];exact I,ad,ab⟩,aa⟩,zG _ _ _,zD _ _ _⟩;simp[run_underlying ae,j7 H,N.check,G,yf H,go_sem]
 | some x=>
  obtain⟨i,v⟩:=x;rw[hq] at G;simp only[Option.map_some] at G;obtain⟨ah,J,ak,M,ai⟩:=kQ hq;simp only[Nat.sub_zero] at J M ai;have hi:i<d.size:=by
   have ag:=congrArg List.length I;simp at ag;have:=(List.getElem?_eq_some_iff.1 J).1;omega
  have U:(d.eraseIdxIfInBounds i).toList=d.toList.eraseIdx i:=by simp[Array.eraseIdxIfInBounds,hi]
  refine⟨setBlock w b (.map (d.eraseIdxIfInBounds i) O), ?_,⟨⟨_,_,heap_setBlock_same H _, ?_, ?_, ?_⟩,aa⟩,zG _ _ _,zD _ _ _⟩
  ·simp[run_underlying ae,j7 H,N.check,G,yf H,go_sem]
  ·rw[M,U,map_eraseIdx,I,map_eraseIdx]
  ·rw[U,map_eraseIdx];exact List.Nodup.sublist (List.eraseIdx_sublist _ _) ad
  ·intro e ac;rw[U] at ac;exact ab e (List.Sublist.mem ac (List.eraseIdx_sublist _ _))
structure jW (w:World) (r b:Nat) (ke:K->Value) (ve:V->Value) (L:List (K×V)) (is:List Nat):Prop where
 ex: ∃(es:Array MapEntry) (clock since c0:Nat) (seen:Array Nat),w.heap[r]? =some (.mapIter (some b) since seen c0)/\w.heap[b]? =some (.map es clock)/\seen.toList=is.map (λi=>(es[i]?.map (·.born)).getD 0)/\
  es.toList.map (λe=>(e.key,e.val))=L.map (λp=>(ke p.1,ve p.2))/\(es.toList.map (·.born)).Nodup/\(∀e∈es.toList,e.born<since)/\since<=c0/\since<=clock/\(∀e∈es.toList,e.born<clock)
 nd:is.Nodup
 lt: ∀i∈is,i<L.length
 keys:(L.map Prod.fst).Nodup
theorem jW.away {r:Nat} {is:List Nat} {w':World} {S:Nat->Prop} (h:jW w r b ke ve L is) (m:qg S w w') (N: ¬S r) (U: ¬S b):jW w' r b ke ve L is:=by
 obtain⟨⟨M,O,J,H,G,d,I,rest⟩,n,l,k⟩:=h;exact⟨⟨M,O,J,H,G,m.blk d N,m.blk I U,rest⟩,n,l,k⟩
theorem jW.more {r:Nat} {is:List Nat} {w':World} (h:jW w r b ke ve L is) (m:qa w w'):jW w' r b ke ve L is:=h.away (qg.of_more (S:=λ_=>False) m) (λx=>x) (λx=>x)
theorem jW.rlt {r:Nat} {is:List Nat} (h:jW w r b ke ve L is):r<w.heap.size:=by
 obtain⟨⟨J,M,I,H,G,d,_⟩,_⟩:=h;exact lt_of_block d
theorem jk.range {M Y t:TypeId} (h:jk w b ke ve L) (N:P.underlying t=some (.map M Y)):
  ∃w',(Instr.range t (.map (some b))).run P w= .ok (γ w.heap.size) w'/\jW w' w.heap.size b ke ve L []/\qa w w'/\w'.heap.size=w.heap.size+1:=by
 obtain⟨⟨O,d,H,J,I,G⟩,U⟩:=h;refine⟨w.alloc (.mapIter (some b) d #[] d), ?_,⟨⟨O,d,d,d,#[],qj _ _,qs H _,rfl,J,I,G,Nat.le_refl _,Nat.le_refl _,G⟩,List.nodup_nil,η,U⟩,qa.alloc _ _,η⟩;unfold Instr.range;simp[run_underlying N,j7 H,go_sem]
theorem jW.next {r:Nat} {is:List Nat} (h:jW w r b ke ve L is):
  (is.length=L.length/\ ∀Y,(Instr.next (γ r) false Y).run P w= .ok (.tuple #[μ false]) w)∨
  ∃(i:Nat) (hi:i<L.length) (w':World),i∉is/\is.length<L.length/\(∀Y,(Instr.next (γ r) false Y).run P w= .ok (.tuple #[μ true,ke L[i].1,ve L[i].2]) w')/\
   jW w' r b ke ve L (is++[i])/\qg (λx=>x=r) w w'/\w'.heap.size=w.heap.size/\(Instr.entry (γ r)).run P w'= .ok (.tuple #[ke L[i].1,ve L[i].2]) w':=by
 obtain⟨⟨d,J,M,aw,H,ah,ac,an,ad,ai,aq,aD,ar,aE⟩,aj,aa,aF⟩:=h;have aJ:d.size=L.length:=by
  have:=congrArg List.length ad
  simpa using this
 have aG: ∀(i j:Nat) (hi:i<d.size) (G:j<d.size),d[i].born=d[j].born->i=j:=λi j hi G e=>by
  have au:=List.pairwise_iff_getElem.1 ai;rcases Nat.lt_trichotomy i j with h | h | h
  ·exact absurd (by rw[List.getElem_map,List.getElem_map];exact e) (au i j (by simpa using hi) (by simpa using G) h)
  ·exact h
  ·exact absurd (by rw[List.getElem_map,List.getElem_map];exact e.symm) (au j i (by simpa using G) (by simpa using hi) h)
 have ax: ∀i (hi:i<d.size),(d[i].born∈H.toList↔i∈is):=λi hi=>by
  rw[an];constructor
  ·intro I;obtain⟨j,G,e⟩:=List.mem_map.1 I;have av:j<d.size:=by rw[aJ];exact aa j G
   simp[av] at e;rw[aG i j hi av e.symm];exact G
  ·intro I;exact List.mem_map.2 ⟨i,I,by simp[hi]⟩
 rcases run_next_at (P:=P) w 0 r b M aw H d J ah ac aq aD with ⟨az,ag⟩ | ⟨e,I,w1,U,ag⟩
 ·left;refine⟨?_,λ_=>ag⟩;have aC: ∀i,i<L.length->i∈is:=λi hi=>by
   have aI:i<d.size:=by omega
   by_cases I:i∈is
   ·exact I
   ·exfalso;have:d[i]∈(leftOf d H).toList:=by
     unfold leftOf;simp only[Array.toList_filter,List.mem_filter];refine⟨η, ?_⟩;have am:=mt (ax i aI).1 I
     simpa using am
    have ay:(leftOf d H).toList.length=0:=by simpa using az
    rw[List.length_eq_zero_iff] at ay;rw[ay] at this;cases this
  have aN:is.length<=L.length:=by
   have:is ⊆ List.range L.length:=λi hi=>List.mem_range.2 (aa i hi)
   simpa using uZ aj this
  have p2:L.length<=is.length:=by
   have:List.range L.length ⊆ is:=λi hi=>aC i (List.mem_range.1 hi)
   simpa using uZ List.nodup_range this
  omega
 ·right;have ae:e∈d.toList/\e.born∉H.toList:=by
   unfold leftOf at I;simp only[Array.toList_filter,List.mem_filter] at I;exact⟨I.1,by simpa using I.2⟩
  obtain⟨i,hi,aL⟩:=List.mem_iff_getElem.1 ae.1;have ak:i<d.size:=by simpa using hi
  have ab:i<L.length:=by omega
  have e0:d[i]=e:=by simpa using aL
  have al:i∉is:=by
   intro am;exact ae.2 (by rw[<-e0];exact(ax i ak).2 am)
  have N:(e.key,e.val)=(ke L[i].1,ve L[i].2):=by
   have:=congrArg (λl=>l[i]?) ad;simp[ak,ab,e0] at this;simp[this]
  simp only[Prod.mk.injEq] at N;have aK:w1.heap[r]? =some (.mapIter (some b) M H aw):=by rcases U with rfl | rfl<;>exact ah
  have aH:w1.heap[b]? =some (.map d J):=by rcases U with rfl | rfl<;>exact ac
  have aM:b≠r:=by intro e;rw[e,ah] at ac;cases ac
  have ap:(setBlock w1 r (.mapIter (some b) M (H.push e.born) J)).heap[r]? =some (.mapIter (some b) M (H.push e.born) J):=by
   simp only[setBlock];rw[Array.getElem?_setIfInBounds_self_of_lt (lt_of_block aK)]
  have ao:(setBlock w1 r (.mapIter (some b) M (H.push e.born) J)).heap[b]? =some (.map d J):=by
   simp only[setBlock];rw[Array.getElem?_setIfInBounds_ne (λe=>aM e.symm)];exact aH
  have aB:is.length<L.length:=by
   have aA:(is++[i]).Nodup:=by
    rw[List.nodup_append];refine⟨aj,η,λa af c O=> ?_⟩;simp at O;subst O;intro e;subst e;exact al af
   have:is++[i] ⊆ List.range L.length:=λj G=>by
    simp at G;rcases G with G | rfl
    ·exact List.mem_range.2 (aa j G)
    ·exact List.mem_range.2 ab
   have:=uZ aA this;simp at this;omega
  refine⟨i,ab,setBlock w1 r (.mapIter (some b) M (H.push e.born) J),al,aB,λY=>by rw[<-N.1,<-N.2];exact ag,⟨⟨d,J,M,J,H.push e.born,ap,ao, ?_,ad,ai,aq,ar,ar,aE⟩, ?_, ?_,aF⟩, ?_, ?_, ?_⟩
  ·simp[an,ak,e0]
  ·rw[List.nodup_append];refine⟨aj,η,λa af c O=> ?_⟩;simp at O;subst O;intro e;subst e;exact al af
  ·intro j G;simp at G;rcases G with G | rfl
   ·exact aa j G
   ·exact ab
  ·have:=zG w1 r (.mapIter (some b) M (H.push e.born) J);rcases U with rfl | rfl
   ·exact this
   ·exact⟨this.os,this.tape,this.output,this.size,this.block⟩
  ·rw[zD];rcases U with rfl | rfl<;>rfl
  ·rw[run_entry_at _ r b M H d J e ap ao ae.1 ai,N.1,N.2]
def uO (w:World) (b r:Nat):Nat:=match w.heap[r]?,w.heap[b]? with
 | some (.mapIter _ _ seen _),some (.map es _)=>es.size-seen.size
 | _,_=>0
theorem jW.left {r:Nat} {is:List Nat} (h:jW w r b ke ve L is):uO w b r=L.length-is.length:=by
 obtain⟨⟨J,aa,Y,U,d,M,I,H,G,_⟩,_⟩:=h;have N:J.size=L.length:=by
  have:=congrArg List.length G
  simpa using this
 have O:d.size=is.length:=by
  have:=congrArg List.length H
  simpa using this
 unfold uO;rw[M,I];simp only[N,O]
def zj (L:List (K×V)) (is:List Nat):List (K×V):=is.filterMap λi=>L[i]?
theorem uW {is:List Nat} {i:Nat} (hi:i<L.length):zj L (is++[i])=zj L is++[L[i]]:=by
 simp[zj,List.filterMap_append,hi]
theorem jW.perm {r:Nat} {is:List Nat} (h:jW w r b ke ve L is) (J:is.length=L.length):(zj L is).Perm L:=by
 have I:is ⊆ List.range L.length:=λi hi=>List.mem_range.2 (h.lt i hi)
 have H:is.Perm (List.range L.length):=XE h.nd I (by simp[J]);have d:=H.filterMap (λi=>L[i]?);have M:(List.range L.length).filterMap (λi=>L[i]?)=L:=by
  refine List.ext_getElem? λj=> ?_
  have G: ∀n,n<=L.length->(List.range n).filterMap (λi=>L[i]?)=L.take n:=by
   intro n
   induction n with
   | zero=>simp
   | succ n ih=>
    intro N;rw[List.range_succ,List.filterMap_append,ih τ,List.take_succ_eq_append_getElem τ];simp[show n<L.length by omega]
  rw[G L.length (Nat.le_refl _),List.take_length]
 rw[M] at d;exact d
end
theorem Ab {P:Program} {G:TypeId} {q:IntKind} (d:P.underlying G=some (.int q)):yz P G (Value.int q):=
 yz.of_now d (λa b=>by simp[Instr.sameNow];rw[Bool.eq_iff_iff];simp) (λb k w=>by
  rw[show (10000:Nat)=9999+1 from rfl];unfold Instr.checkKey;rw[Sem.run_bind,run_underlying d]
  rfl) (λk=>by simp[Instr.sameBits])
end
section
open Go.RowKit
abbrev Bk:=List ((Int×Int)×Int)
def ke2 (k:Int×Int):Value:= .agg #[.int .i64 k.1,.int .i64 k.2]
theorem PN (a b:Int×Int) (w:World):(Op.equal 172 (ke2 a) (ke2 b)).run prog w= .ok (decide (a=b)) w:=by
 have J:prog.stoodInHeld 172=false:=by kernel_rfl
 obtain⟨I,d⟩:=a;obtain⟨H,G⟩:=b;unfold Op.equal ke2;rw[show Op.maxDepth=9999+1 from rfl,run_equalIn_agg w 9999 172 _ _ ξ J];simp[go_sem];by_cases e1:I=H<;>by_cases e2:d=G<;>simp[e1,e2]
theorem Dg {P:Program} {d:TypeId} {q:IntKind} (G:P.underlying d=some (.int q)) (n:Nat) (H:0<n) (b:Bool) (x:Int) (w:World):(Instr.checkKey b n d (.int q x)).run P w= .ok () w:=by
 obtain⟨m,rfl⟩: ∃m,n=m+1:=⟨n-1,τ⟩;unfold Instr.checkKey;rw[Sem.run_bind,run_underlying G];rfl
theorem Ys:yz prog 172 ke2:=
 yz.of_ask underlying172 (λa b=>by simp[Instr.sameNow]) PN (λb k w=>by
  rw[show (10000:Nat)=9999+1 from rfl];unfold Instr.checkKey ke2
  simp[run_underlying underlying172,go_sem,Dg underlying3 9999 ζ]) (λk=>by simp[Instr.sameBits,ke2])
structure jy (w:World) (B b:Nat) (m:Bk):Prop where
 blk:w.heap[B]? =some (.cells #[.map (some b)] 197 (0,0))
 map:jk w b ke2 (Value.int .i64) m
 ok: ∀p∈m,0<=p.2/\p.2<=8
theorem jy.ne {w:World} {B b:Nat} {m:Bk} (h:jy w B b m):B≠b:=by
 intro e;obtain⟨H,G,d,_⟩:=h.map.ex;have:=h.blk;rw[e,d] at this;cases this
theorem jy.more {w w':World} {B b:Nat} {m:Bk} (h:jy w B b m) (d:qa w w'):jy w' B b m:=⟨qc d h.blk,h.map.more d,h.ok⟩
theorem jy.away {w w':World} {B b:Nat} {m:Bk} {S:Nat->Prop} (h:jy w B b m) (a:qg S w w') (d: ¬S B) (G: ¬S b):jy w' B b m:=⟨a.blk h.blk d,h.map.away a G,h.ok⟩
theorem Gu (w:World):(zeroValue 91).run prog w= .ok (ι 0) w:=by kernel_rfl
theorem jy.look {w:World} {B b:Nat} {m:Bk} (h:jy w B b m) (k:Int×Int) (n:Nat):
  (Instr.lookup 195 (.map (some b)) (θ #[ι k.1,ι k.2]) true).run prog (w.drewN n)= .ok (.tuple #[ι ((qh m k).getD 0),μ (qh m k).isSome]) (w.drewN n):=by
 have:=(h.map.more (qa.drewN w n)).look Ys underlying195 (Gu _) k true;unfold ke2 at this;rw[this];cases qh m k<;>rfl
theorem Nv (w:World):Calls prog 38 #[] w λe w'=> ∃B b,e= .returned (γ B)/\w.heap.size<=B/\w.heap.size<=b/\jy w' B b []/\qa w w':=by
 go_enter func38,ntmps38
 have d:= @run_makeMap prog;go_wp2;go_ret;exact⟨w.heap.size+1,w.heap.size,rfl,τ,τ,⟨qC η,(jk.made w ke2 (Value.int .i64)).more (qa.alloc _ _),η⟩,(qa.alloc _ _).al _⟩
theorem MK {w:World} {B b:Nat} {m:Bk} (h:jy w B b m) (k:Int×Int):
  Calls prog 89 #[γ B,θ #[ι k.1,ι k.2]] w λe w'=>e= .returned (.tuple #[ι ((qh m k).getD 0),μ (qh m k).isSome])/\qa w w':=by
 have d:=h.more (qa.alloc w (.cells #[ι k.1,ι k.2] 172));have H:=β0 d.blk;have q:=d.look k;clear d h
 go_enter func89,ntmps89
 go_wp2;refine wp_region_quiet_lit ξ ξ ?_
 repeat (go_big_quiet_step (fail))
 refine wpQuiet_nil ?_;intro _ G;obtain⟨nq,rfl⟩:=G;go_wp2
 go_ret2
 exact⟨rfl,(qa.alloc _ _).dr _⟩
end
section
open Go.RowKit
def vT (m:Bk) (k:Int×Int):Bk×Int:=if 0<=k.1/\k.1<6/\0<=k.2 then (if (qh m k).isSome then (m,6) else (qx m k 0,0)) else (m,1)
def zi (m:Bk) (k:Int×Int) (f:Int):Bk×Int:=if 1<=f/\f<=8 then (if (qh m k).isSome then (if (qh m k).getD 0=0 then (qx m k f,0) else (m,6)) else (m,5)) else (m,1)
theorem VE {K V:Type} [DecidableEq K] {k:K} {v:V}: ∀{m:List (K×V)} {p:K×V},p∈qx m k v->p∈m∨p=(k,v)
 | [],p,h=>by simp[qx] at h;exact Or.inr h
 | (a,b)::l,p,h=>by
  unfold qx at h;split at h
  ·rcases List.mem_cons.1 h with h | h
   ·exact Or.inr h
   ·exact Or.inl (List.mem_cons_of_mem _ h)
  ·rcases List.mem_cons.1 h with h | h
   ·exact Or.inl (by rw[h];exact List.mem_cons_self)
   ·rcases VE h with h | h
    ·exact Or.inl (List.mem_cons_of_mem _ h)
    ·exact Or.inr h
theorem jy.put {w w':World} {B b:Nat} {m:Bk} (h:jy w B b m) (a:qg (λx=>x=b) w w') {k:Int×Int} {f:Int} (G:0<=f/\f<=8) (H:jk w' b ke2 (Value.int .i64) (qx m k f)):jy w' B b (qx m k f):=
 ⟨a.blk h.blk h.ne,H,λp d=>by
  rcases VE d with d | rfl
  ·exact h.ok p d
  ·exact G⟩
theorem Nu {w:World} {B b:Nat} {m:Bk} (h:jy w B b m) (k:Int×Int):
  Calls prog 179 #[γ B,θ #[ι k.1,ι k.2]] w λe w'=>e= .returned (ι (vT m k).2)/\jy w' B b (vT m k).1/\qg (λx=>x=b) w w':=by
 have I:=h.more (qa.alloc w (.cells #[ι k.1,ι k.2] 172));have ad:=β0 I.blk;have q:=I.look k;have H:=κ I;clear I h;have aa:k.1<0∨(¬k.1<0/\6<=k.1)∨(¬k.1<0/\ ¬6<=k.1/\k.2<0)∨(¬k.1<0/\ ¬6<=k.1/\ ¬k.2<0):=by omega
 rcases aa with g1 | ⟨g1,g2⟩ | ⟨g1,g2,g3⟩ | ⟨g1,g2,g3⟩
 ·have d:vT m k=(m,1):=by unfold vT;rw[if_neg τ]
  have G:=κ d;clear d q
  go_enter func179,ntmps179
  go_wp2;go_ret;rw[G.o];exact⟨rfl,H.o,qg.of_more (qa.alloc _ _)⟩
 ·have d:vT m k=(m,1):=by unfold vT;rw[if_neg τ]
  have G:=κ d;clear d q
  go_enter func179,ntmps179
  go_wp2;go_ret;rw[G.o];exact⟨rfl,H.o,qg.of_more (qa.alloc _ _)⟩
 ·have d:vT m k=(m,1):=by unfold vT;rw[if_neg τ]
  have G:=κ d;clear d q
  go_enter func179,ntmps179
  go_wp2;go_ret;rw[G.o];exact⟨rfl,H.o,qg.of_more (qa.alloc _ _)⟩
 ·cases hs:(qh m k).isSome with
  | true=>
   have d:vT m k=(m,6):=by unfold vT;rw[if_pos τ,hs];rfl
   have G:=κ d;simp only[hs] at q;clear d hs
   go_enter func179,ntmps179
   go_wp2;refine wp_region_quiet_lit ξ ξ ?_
   repeat (go_big_quiet_step (fail))
   refine wpQuiet_nil ?_;intro _ J;obtain⟨nq,rfl⟩:=J;go_wp2;go_ret;rw[G.o];exact⟨rfl,H.o.more (qa.drewN _ _),qg.of_more ((qa.alloc _ _).dr _)⟩
  | false=>
   have d:vT m k=(qx m k 0,0):=by unfold vT;rw[if_pos τ,hs];rfl
   have G:=κ d;simp only[hs] at q;clear d hs
   go_enter func179,ntmps179
   go_wp2;refine wp_region_quiet_lit ξ ξ ?_
   repeat (go_big_quiet_step (fail))
   refine wpQuiet_nil ?_;intro _ J;obtain⟨nq,rfl⟩:=J
   go_wp2_with fail
   have ae:=λ(x:qt (w.alloc (.cells #[ι k.1,ι k.2] 172)))=>β0 (qc x.h H.o.blk)
   have ac: ∀x:qt (w.alloc (.cells #[ι k.1,ι k.2] 172)),x.w'.cell? ⟨w.heap.size,0,none⟩=some (ι k.1):=λx=>x.new 0 rfl
   have af: ∀x:qt (w.alloc (.cells #[ι k.1,ι k.2] 172)),x.w'.cell? ⟨w.heap.size,1,none⟩=some (ι k.2):=λx=>x.new 1 rfl
   refine Qn (w.alloc (.cells #[ι k.1,ι k.2] 172)) 5 6 [5] ?_
   refine Qq ?_
   obtain⟨w9,ab,N,U,_⟩:=(H.o.map.more (qa.drewN _ (nq+1))).update Ys underlying195 k 0;unfold ke2 at ab;have Y:=κ N;have O:=κ U;clear N U
   (refine Qe ?_;intro K M)
   refine M _ _ ?_;clear M K;refine qA ?_;go_wp2;go_ret;rw[G.o];exact⟨rfl,(H.o.more (qa.drewN _ (nq+1))).put O.o ζ Y.o,(qg.of_more ((qa.alloc _ _).dr _)).trans O.o⟩
theorem yP (f:Int) (w:World) (h:1<=f/\f<=8):Calls prog 145 #[ι f] w λe w'=>e= .returned (μ true)/\w=w':=by
 obtain⟨d,G⟩:=h
 go_enter func145,ntmps145
 go_wp2;go_ret;exact⟨rfl,rfl⟩
theorem Jh (f:Int) (w:World) (h: ¬(1<=f/\f<=8)):Calls prog 145 #[ι f] w λe w'=>e= .returned (μ false)/\w=w':=by
 have d:f<1∨(¬f<1/\8<f):=by omega
 clear h;rcases d with h1 | ⟨h1,h2⟩
 ·go_enter func145,ntmps145
  go_wp2;go_ret;exact⟨rfl,rfl⟩
 ·go_enter func145,ntmps145
  go_wp2;go_ret;exact⟨qZ (by simp;omega),rfl⟩
theorem F0 {w:World} {B b:Nat} {m:Bk} (h:jy w B b m) (k:Int×Int) (f:Int):
  Calls prog 163 #[γ B,θ #[ι k.1,ι k.2],ι f] w λe w'=>e= .returned (ι (zi m k f).2)/\jy w' B b (zi m k f).1/\qg (λx=>x=b) w w':=by
 have M:=h.more (qa.alloc w (.cells #[ι k.1,ι k.2] 172));have ae:=β0 M.blk;have q:=M.look k;have I:=κ M;clear M h;by_cases hf:1<=f/\f<=8
 ·have G:=κ hf;clear hf;cases hs:(qh m k).isSome with
  | false=>
   have d:zi m k f=(m,5):=by unfold zi;rw[if_pos G.o,hs];rfl
   have H:=κ d;simp only[hs] at q;clear d hs
   go_enter func163,ntmps163
   go_wp2_with (go_at_call 145;((with_reducible refine(yP f _ G.o).mono ?_);rintro e w2 ⟨rfl,rfl⟩))
   refine wp_region_quiet_lit ξ ξ ?_
   repeat (go_big_quiet_step (fail))
   refine wpQuiet_nil ?_;intro _ J;obtain⟨nq,rfl⟩:=J;go_wp2;go_ret;rw[H.o];exact⟨rfl,I.o.more (qa.drewN _ _),qg.of_more ((qa.alloc _ _).dr _)⟩
  | true=>
   by_cases hv:(qh m k).getD 0=0
   ·have d:zi m k f=(qx m k f,0):=by unfold zi;rw[if_pos G.o,if_pos hs,if_pos hv]
    have H:=κ d;simp only[hs,hv] at q;clear d hs hv
    go_enter func163,ntmps163
    go_wp2_with (go_at_call 145;((with_reducible refine(yP f _ G.o).mono ?_);rintro e w2 ⟨rfl,rfl⟩))
    refine wp_region_quiet_lit ξ ξ ?_
    repeat (go_big_quiet_step (fail))
    refine wpQuiet_nil ?_;intro _ J;obtain⟨nq,rfl⟩:=J
    go_wp2_with fail
    have af:=λ(x:qt (w.alloc (.cells #[ι k.1,ι k.2] 172)))=>β0 (qc x.h I.o.blk)
    have ad: ∀x:qt (w.alloc (.cells #[ι k.1,ι k.2] 172)),x.w'.cell? ⟨w.heap.size,0,none⟩=some (ι k.1):=λx=>x.new 0 rfl
    have ag: ∀x:qt (w.alloc (.cells #[ι k.1,ι k.2] 172)),x.w'.cell? ⟨w.heap.size,1,none⟩=some (ι k.2):=λx=>x.new 1 rfl
    refine Qn (w.alloc (.cells #[ι k.1,ι k.2] 172)) 6 7 [6] ?_
    refine Qq ?_
    obtain⟨w9,ab,U,Y,_⟩:=(I.o.map.more (qa.drewN _ (nq+1))).update Ys underlying195 k f;unfold ke2 at ab;have aa:=κ U;have O:=κ Y;clear U Y
    (refine Qe ?_;intro K N)
    refine N _ _ ?_;clear N K;refine qA ?_;go_wp2;go_ret;rw[H.o];exact⟨rfl,(I.o.more (qa.drewN _ (nq+1))).put O.o (by have:=G.o;omega) aa.o,(qg.of_more ((qa.alloc _ _).dr _)).trans O.o⟩
   ·have d:zi m k f=(m,6):=by unfold zi;rw[if_pos G.o,if_pos hs,if_neg hv]
    have H:=κ d;simp only[hs] at q;generalize (qh m k).getD 0=fv at *;have ac:(fv != 0)=true:=by simpa using hv
    clear d hs hv
    go_enter func163,ntmps163
    go_wp2_with (go_at_call 145;((with_reducible refine(yP f _ G.o).mono ?_);rintro e w2 ⟨rfl,rfl⟩))
    refine wp_region_quiet_lit ξ ξ ?_
    repeat (go_big_quiet_step (fail))
    refine wpQuiet_nil ?_;intro _ J;obtain⟨nq,rfl⟩:=J;go_wp2;go_ret;rw[H.o];exact⟨rfl,I.o.more (qa.drewN _ _),qg.of_more ((qa.alloc _ _).dr _)⟩
 ·have d:zi m k f=(m,1):=by unfold zi;rw[if_neg hf]
  have H:=κ d;have G:=κ hf;clear d q hf
  go_enter func163,ntmps163
  go_wp2_with (go_at_call 145;((with_reducible refine(Jh f _ G.o).mono ?_);rintro e w2 ⟨rfl,rfl⟩))
  go_ret;rw[H.o];exact⟨rfl,I.o,qg.of_more (qa.alloc _ _)⟩
end
section
open Go.Shelf
def Kl:Go.Shelf.Ren:=⟨fun | 189=>107 | 125=>153 | 257=>152 | 128=>199 | 129=>200 | 294=>190 | 295=>191 | 296=>192 | 297=>193 | 298=>194 | 299=>195 | 216=>196 | 300=>197 | 301=>198 | 328=>230 | 329=>231 | 330=>232 | 331=>233 | 332=>234 | 215=>235 | 343=>248 | n=>n,fun | 28=>75 | 3=>3 | 46=>298 | 0=>0 | 51=>37 | 53=>190 | 4=>4 | 183=>349 | 182=>348 | 131=>203 | 5=>5 | 9=>9 | 218=>382 | 222=>386 | 228=>402 | 229=>47 | n=>n,fun | n=>n⟩
theorem WW:Go.Proofs.Lays.n189 prog Kl:={
 mixed:=by kernel_rfl
 f125:=func153.trans (congrArg some ξ)
 f128:=func199.trans (congrArg some ξ)
 f129:=func200.trans (congrArg some ξ)
 f189:=func107.trans (congrArg some ξ)
 f215:=func235.trans (congrArg some ξ)
 f216:=func196.trans (congrArg some ξ)
 f257:=func152.trans (congrArg some ξ)
 f294:=func190.trans (congrArg some ξ)
 f295:=func191.trans (congrArg some ξ)
 f296:=func192.trans (congrArg some ξ)
 f297:=func193.trans (congrArg some ξ)
 f298:=func194.trans (congrArg some ξ)
 f299:=func195.trans (congrArg some ξ)
 f300:=func197.trans (congrArg some ξ)
 f301:=func198.trans (congrArg some ξ)
 f328:=func230.trans (congrArg some ξ)
 f329:=func231.trans (congrArg some ξ)
 f330:=func232.trans (congrArg some ξ)
 f331:=func233.trans (congrArg some ξ)
 f332:=func234.trans (congrArg some ξ)
 f343:=func248.trans (congrArg some ξ)
 t0:=underlying0
 a0:=isAgg0
 z0:=sizeOf0
 v0:=zeroValue0
 t3:=underlying3
 a3:=isAgg3
 z3:=sizeOf3
 v3:=zeroValue3
 t4:=underlying4
 a4:=isAgg4
 z4:=sizeOf4
 v4:=zeroValue4
 t5:=underlying5
 a5:=isAgg5
 z5:=sizeOf5
 v5:=zeroValue5
 t9:=underlying9
 a9:=isAgg9
 z9:=sizeOf9
 v9:=zeroValue9
 t28:=underlying75
 a28:=isAgg75
 z28:=sizeOf75
 v28:=zeroValue75
 t46:=underlying298
 a46:=isAgg298
 z46:=sizeOf298
 v46:=zeroValue298
 t51:=underlying37
 a51:=isAgg37
 z51:=sizeOf37
 v51:=zeroValue37
 t53:=underlying190
 a53:=isAgg190
 z53:=sizeOf190
 v53:=zeroValue190
 t131:=underlying203
 a131:=isAgg203
 z131:=sizeOf203
 v131:=zeroValue203
 t182:=underlying348
 a182:=isAgg348
 z182:=sizeOf348
 v182:=zeroValue348
 t183:=underlying349
 a183:=isAgg349
 z183:=sizeOf349
 v183:=zeroValue349
 t218:=underlying382
 a218:=isAgg382
 z218:=sizeOf382
 v218:=zeroValue382
 t222:=underlying386
 a222:=isAgg386
 z222:=sizeOf386
 v222:=zeroValue386
 t228:=underlying402
 a228:=isAgg402
 z228:=sizeOf402
 v228:=zeroValue402
 t229:=underlying47
 a229:=isAgg47
 z229:=sizeOf47
 v229:=zeroValue47}
open Go.RowKit
def srt (l:List Int):List Int:=l.mergeSort λx y=>decide (x<=y)
theorem vI (l:List Int):(srt l).length=l.length:=by unfold srt;simp
theorem gL {a b:List Int} (h:a.Perm b):srt a=srt b:=by
 unfold srt;have G: ∀a b c:Int,decide (a<=b)=true->decide (b<=c)=true->decide (a<=c)=true:=λa b c d I=>by simp at *;omega
 have H: ∀a b:Int,(decide (a<=b)||decide (b<=a))=true:=λa b=>by simp;omega
 refine List.Perm.eq_of_pairwise (le:=λx y:Int=>decide (x<=y)=true) ?_ (List.pairwise_mergeSort G H a) (List.pairwise_mergeSort G H b) (((List.mergeSort_perm a _).trans h).trans (List.mergeSort_perm b _).symm);intro x y _ _ d I;simp at d I;omega
theorem Zh {l:List Int} (h:l.Pairwise (· <= ·)):srt l=l:=List.mergeSort_of_pairwise (by simpa using h)
theorem WG {l:List Int} {x:Int}:x∈srt l↔x∈l:=(List.mergeSort_perm l _).mem_iff
theorem jS {w:World} {base e size n:Nat} {v:Value} {xs:List Value} (h:w.ownsRow base e size v n xs) {q:Nat} (d:v.ownBlock=some q):base<=q:=by
 rcases h.2 with ⟨rfl,_⟩ | ⟨b,cap,cur,rfl,G,_⟩
 ·cases d
 ·cases d;exact G
theorem Yx {S:Nat->Prop} {w w':World} {base e size n:Nat} {v:Value} {xs:List Value} (h:w.ownsRow base e size v n xs) (m:qg S w w') (G: ∀k,S k->k<base):w'.ownsRow base e size v n xs:=by
 obtain⟨d,H⟩:=h;refine⟨d, ?_⟩;rcases H with h | ⟨g,cap,cur,e1,hb,hg,rest⟩
 ·exact Or.inl h
 ·exact Or.inr ⟨g,cap,cur,e1,hb,m.blk hg (λx=>by have:=G g x;omega),rest⟩
theorem DQ {w:World} {base:Nat} {v:Value} {l:List Int} (h:w.ownsRow base 3 1 v l.length (l.map (Value.int .i64))) (M:l.length<4611686018427387904):
  Calls prog 107 #[v] w λe w'=>e= .returned (.tuple #[])/\w'.ownsRow base 3 1 v (srt l).length ((srt l).map (Value.int .i64))/\w.grownBy w' v.ownBlock:=by
 obtain⟨ab,h⟩:=h;rcases h with ⟨rfl,J⟩ | ⟨b,cap,cur,rfl,O,d,N,aa,I,U⟩
 ·have e0:l=[]:=by simpa using J
  subst e0;refine(Any.slices_Sort_int_none WW none 0 w).mono λe w' ⟨G,H⟩=> ?_
  subst H;exact⟨G,⟨by simp[srt],Or.inl ⟨rfl,by simp[srt]⟩⟩,⟨rfl,rfl,rfl,Nat.le_refl _,λ_ _ _=>rfl⟩⟩
 ·have Y:cur.toList.take l.length=l.map (Value.int .i64):=by simpa using U
  refine(Any.slices_Sort_int WW b 0 cap l w (holds_of_blockI d Y) (lt_of_block d) M).mono λe w' ⟨G,n,os,H⟩=> ?_
  subst H;refine⟨G, ?_,grownBy_sortedI _⟩;have:=ownsRow_sortedI (w:=w) (n:=n) (os:=os) (ss:=l) (ts:=srt l) (vI l) O d N aa I;rw[vI];exact this
end
end Go.Proofs.YtdgippmmaponfaaGreat
