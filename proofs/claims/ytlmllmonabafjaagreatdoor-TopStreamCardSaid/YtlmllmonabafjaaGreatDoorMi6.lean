/- x -/
import Derived.Test.YtlmllmonabafjaaGreatDoorMi5
import Derived.Maps.RangeRun
import Derived.ChangeMaps5
import Derived.Maps.OwnSet
import Derived.WalkMore
import Derived.ScopeJumps
namespace Go.Proofs.YtlmllmonabafjaaGreatDoor
open Option renaming some->ϊ,none->ϋ
open Bool renaming true->ό,false->ύ
open Go.Value renaming bool->μ,slice->δ,pointer->π,agg->θ
open Go.IntKind renaming i64->ι,u8->υ,u16->φ,u32->ω,i32->χ,u64->ψ
open _root_.Go.Proofs.Tryz
set_option linter.all false
set_option maxHeartbeats 8000000
set_option maxRecDepth 100000
open Go.RowKit
open Go.RowKit Go.Lib
variable {w w':World} {s:RdS} {C S:Nat->Prop} {b l A L:List Int} {v vb v':Value} {is:List Nat} {R c B T a r i:Nat} {d:TypeId} {P:Program} {q:IntKind} {cs:Array Value} {xs:List Value} {o:Obj} {n e:Int} {p:Int×Int} {h:Hd} {α:Type}
def Bl {w10 G:World} {b:Jb} {H:Option Addr} {cap:Nat} (J:xZ w10 R (δ H b.holds.length cap) b) (O:ql w w10) (ab:R<w.heap.size)
  (I:jt (λk=>(δ H b.holds.length cap).ownBlock=ϊ k) w10 G) (N:zT G (R+1) v' (ue b.holds h)) (aa:v'.ownBlock=(δ H b.holds.length cap).ownBlock∨ ∃g,v'.ownBlock=ϊ g/\w.heap.size<=g):
  NQ w (G.setCell ⟨R,2,ϋ⟩ v') R (δ H b.holds.length cap) v' {b with holds:=ue b.holds h}:=by
 have U:(δ H b.holds.length cap).ownBlock≠ϊ R:=λe=>by have:=(J.row.own_ge e).1;omega
 have Y:v'.ownBlock≠ϊ R:=λe=>by have:=(N.own_ge e).1;omega
 have M:jt (λk=>k=R) G (G.setCell ⟨R,2,ϋ⟩ v'):=(jt.refl (λk=>k=R) G).set (p:=⟨R,2,ϋ⟩) rfl v';refine⟨⟨qB (qp (I.blk J.blk U) 2 v') rfl,N.away M (λk d x=>Y (by rw[<-x];exact d))⟩, ?_,aa⟩;exact jt.old O ((I.mono λk d=>ϔ d).trans (M.mono λk d=>ϒ d)) λk d=>ϒ d
def CG (b:Jb) (ok:JOK b) (R:Nat) (v:Value) (n d x:Int) (bb:xz n) (w:World) (aa:xZ w R v b):
  Calls prog 194 #[γ R,ι n,ι d,ι x] w λbB w'=>bB= .returned (ι (jP b n d x).2)/\ ∃v',NQ w w' R v v' (jP b n d x).1:=by
 have bo:Hid (b.room<=b.holds.length∨b.holds.length<=8):=κ (by have:=ok.fits;have:=ok.room;omega);have bE:=uY bb;have bF:=uY ok.hi;obtain⟨bQ,bR⟩:=ok.hi;obtain⟨bU,bV⟩:=bb;have bt:=κ ok.bits;have ab:=κ (aa.on (ql.alloc w (.cells #[ι n] 2)));have aL:=qj w (.cells #[ι n] 2);have aS:=κ aL;have aw:=ux b R v _ ab.o ok.hi;have aR:=κ (ql.alloc w (.cells #[ι n] 2));have ak: ∀args w,(callFunc 246 args).run prog w= .ok (.enter 246 args) w:=λargs w=>by kernel_rfl
 have bm: ∀args w,(callFunc 247 args).run prog w= .ok (.enter 247 args) w:=λargs w=>by kernel_rfl
 have an:Hid (ZA 246 #[γ w.heap.size] (λk=>k.1==n) b.holds (w.alloc (.cells #[ι n] 2))):=κ λW' y _ m=>Dp n _ y W' (qq m aL)
 obtain⟨_,_,c2,_,_,_⟩:=ab.o.cells ⟨_,ql.refl _⟩;have bP:w.heap.size≠R:=λe=>by have:=lt_of_block aa.blk;omega
 obtain⟨G,cap,rfl,bT⟩:=aa.row.shape;obtain⟨bk,aJ⟩:=ν (JM b n);obtain⟨U,aG⟩:=ν (b.begun);rw[aG] at aw;obtain⟨bi,aI⟩:=ν ((if U=ό then b.hi+1 else 0));rw[aI] at aw;have bs:=κ aw;have br:=κ aI;have am:=κ aG;obtain⟨bf,aZ⟩:=ν (yi b.hi b.bits n);have af:=κ aZ;clear aw aI aZ;have aQ:Hid ((b.holds.any λk=>k.1==n)=bk):=κ aJ;have ah:=κ aJ;have bq:Hid ((δ G b.holds.length cap).ownBlock≠ϊ w.heap.size):=κ (λe=>by have:=(aa.row.own_ge e).2;omega);have aP:=κ (lt_of_block aa.blk);have az:Hid (∀(e:Int) (aB:World),jP b n d x=(b,e)->xZ aB R (δ G b.holds.length cap) b->ql w aB->(Ending.returned (ι e)= .returned (ι (jP b n d x).2)/\ ∃v',NQ w aB R (δ G b.holds.length cap) v' (jP b n d x).1)):=κ (λe aB Y aj bC=>by rw[Y];exact⟨rfl,_,NQ.keep bC aj⟩);clear aa aL aG aJ
 go_enter func194,ntmps194
 go_upto_block 0 with (go_at_call 172;(go_call bs.o as bO w1 ⟨rfl,rfl⟩))
 go_cut [] from 21 to 82 (λM=>xZ M R (δ G b.holds.length cap) b/\M.heap[w.heap.size]? =ϊ (.cells #[ι n] 2)/\ql w M/\jP b n d x=({b with holds:=ue b.holds (n,d,x)},0)/\ ¬b.room<=b.holds.length)
 case first=>
  cases bk
  ·go_upto_region 5 with (go_at_call 173;(go_call xt _ _ (λk=>k.1==n) ak b.holds _ (R+1) _ ab.o.row an.o as aF w2 ⟨rfl,J⟩;rw[aQ.o];have N:=κ (ab.o.on J);have ar:=κ (qq J aS.o);have ap:=κ (aR.o.trans J);clear J))
   clear an c2 ak;have bz:=λ(x:qt w2)=>β0 (qq x.h ar.o)
   have c4: ∀x:qt w2,x.w'.cell? ⟨R,4,ϋ⟩=ϊ (ι b.hi):=λx=>(N.o.cells x).2.2.2.2.1
   have c5: ∀x:qt w2,x.w'.cell? ⟨R,5,ϋ⟩=ϊ (ψ b.bits):=λx=>(N.o.cells x).2.2.2.2.2
   have aM:Hid (∀W:World,Calls prog 248 #[θ #[ι b.hi,ψ b.bits],ι n] W λe w'=>e= .returned (μ bf)/\ql W w'):=κ λW=>by rw[<-af.o];exact FX b.hi b.bits n bF bE bt.o W
   obtain⟨q,bd⟩:=ν ((U&&bf));have ag:=κ bd;clear bd
   go_cut [21] from 28 to 82 (λv M=>v= μ q/\ql w2 M)
   case first=>
    cases U
    all_goals
     refine qD w2 (ql.refl _) ξ ξ ?_
     repeat (go_big_quiet_step ((go_at_call 248;with_reducible exact j6 (aM.o _))))
     refine wpQuiet_nil ?_;intro _ aK;obtain⟨bl,rfl⟩:=aK;have ai:=κ bl.h;generalize bl.w'=w5 at *;go_wp2;go_meet;exact⟨by rw[<-ag.o];simp,ai.o⟩
   case rest=>
   obtain⟨rfl,av⟩:=hcut;have ae:=κ (N.o.on av);have aT:=κ (qq av ar.o);have ai:=κ (ap.o.trans av);clear av bz c4 c5 N ar ap aM;cases q
   ·have bA:=β0 aT.o;obtain⟨aA,be⟩:=ν ((U&&decide (n<bi)));have ao:=κ be;clear be;have aD:Hid ((U&&decide (n<b.hi+1))=aA):=κ (by rw[<-ao.o,<-br.o];cases U<;>simp)
    go_upto_region 7 with fail
    go_cut [37] from 38 to 82 (λv M=>v= μ aA/\wc=M)
    case first=>
     cases U
     ·go_wp2;go_meet;exact⟨by rw[<-ao.o];rfl,rfl⟩
     ·by_cases hl:n<bi
      ·go_wp2;go_meet;exact⟨by rw[<-ao.o];simp[hl],rfl⟩
      ·go_wp2;go_meet;exact⟨by rw[<-ao.o];simp[hl],rfl⟩
    case rest=>
    obtain⟨rfl,rfl⟩:=hcut;cases aA
    ·go_upto_region 9 with fail
     have bx: ∀x:qt wc,x.w'.cell? ⟨R,0,ϋ⟩=ϊ (ι b.room):=λx=>(ae.o.cells x).1
     have c2: ∀x:qt wc,x.w'.cell? ⟨R,2,ϋ⟩=ϊ (δ G b.holds.length cap):=λx=>(ae.o.cells x).2.2.1
     by_cases hf:b.room<=b.holds.length
     all_goals
      refine qD wc (ql.refl _) ξ ξ ?_
      repeat (go_big_quiet_step (fail))
      refine wpQuiet_nil ?_;intro _ aK;obtain⟨aC,rfl⟩:=aK;have ac:=κ (ae.o.on aC.h);have au:=κ (qq aC.h aT.o);have aq:=κ (ai.o.trans aC.h);clear bx c2 bA;generalize aC.w'=w9 at *
     ·have I:=κ (show jP b n d x=(b,8) by unfold jP;rw[ah.o,am.o,af.o,ag.o,aD.o,ώ ζ,ώ ζ,ϐ hf]);go_wp2;go_ret;exact az.o _ _ I.o ac.o aq.o
     ·go_wp2;go_meet;exact⟨ac.o,au.o,aq.o,by unfold jP;rw[ah.o,am.o,af.o,ag.o,aD.o,ώ ζ,ώ ζ,ώ τ],τ⟩
    ·have I:=κ (show jP b n d x=(b,9) by unfold jP;rw[ah.o,am.o,af.o,ag.o,aD.o];rfl);go_wp2;go_ret;exact az.o _ _ I.o ae.o ai.o
   ·have I:=κ (show jP b n d x=(b,10) by unfold jP;rw[ah.o,am.o,af.o,ag.o];rfl);go_wp2;go_ret;exact az.o _ _ I.o ae.o ai.o
  ·have I:=κ (show jP b n d x=(b,10) by unfold jP;rw[ah.o];rfl)
   go_wp2_with (go_at_call 173;(go_call xt _ _ (λk=>k.1==n) ak b.holds _ (R+1) _ ab.o.row an.o as aF w2 ⟨rfl,J⟩;rw[aQ.o];have N:=κ (ab.o.on J);have ar:=κ (qq J aS.o);have ap:=κ (aR.o.trans J);clear J))
   go_ret;exact az.o _ _ I.o N.o ap.o
 case rest=>
 obtain⟨aX,bh,bg,aY,bD⟩:=hcut;have ac:=κ aX;have au:=κ bh;have aq:=κ bg;have I:=κ aY;have bp:Hid (b.holds.length<=8):=κ (bo.o.resolve_left τ);obtain⟨_,_,aF,_,_,_⟩:=ac.o.cells ⟨_,ql.refl _⟩;have bn:Hid (ZA 247 #[γ w.heap.size] (λk=>decide (n<k.1)) b.holds wc):=κ λW' y _ m=>Wp n _ y W' (qq m au.o)
 clear aX bh bg aY bD c2 an ak;have aN:=κ (wJ _ _ (λk=>decide (n<k.1)) bm b.holds _ (R+1) _ ac.o.row bn.o);obtain⟨bH,aH⟩:=ν (Jk (λk=>decide (n<k.1)) b.holds);rw[aH] at aN;have aO:=κ aH;clear aH
 go_upto_region 12 with (go_at_call 231;(go_call aN.o as aW w10 ⟨rfl,ax⟩;have O:=κ (ac.o.on ax);have bu:=κ (qq ax au.o);have aE:=κ (aq.o.trans ax);obtain⟨_,_,aW,_,_,_⟩:=O.o.cells ⟨_,ql.refl _⟩;clear ax aF))
 obtain⟨bW,ba⟩:=ν (decide (bH<0));have bM:=κ ba;clear ba
 go_upto_if 62 with fail
 go_cut [13] from 63 to 82 (λv M=>v= ι (atJ b.holds n:Int)/\w10=M)
 case first=>
  rcases Fx b.holds n with ⟨Y,aj⟩ | ⟨Y,aj⟩
  ·rw[aO.o] at Y;subst Y;have bS: ¬((atJ b.holds n:Nat):Int)<0:=by omega
   go_wp2;go_meet;exact⟨rfl,rfl⟩
  ·rw[aO.o] at Y;subst Y;have N:=κ aj;clear aj;go_wp2;go_meet;exact⟨by rw[N.o],rfl⟩
 case rest=>
 obtain⟨rfl,rfl⟩:=hcut
 go_upto_region 14 with fail
 have bc:(δ G b.holds.length cap).ownBlock≠ϊ R:=λe=>by have:=(O.o.row.own_ge e).1;omega
 have bG:(δ G b.holds.length cap).ownBlock≠ϊ w.heap.size:=bq.o;have c2:=λ(x:qz (λk=>(δ G b.holds.length cap).ownBlock=ϊ k) w10)=>β2 (x.h.blk O.o.blk bc)
 have c5:=λ(x:qz (λk=>(δ G b.holds.length cap).ownBlock=ϊ k) w10)=>β0 (x.h.blk bu.o bG)
 clear aW;refine QN (λk=>(δ G b.holds.length cap).ownBlock=ϊ k) w10 14 15 [10,11,12,14] ?_
 refine Nx ?_
 (refine Ql ?_;intro K H)
 have ay:ql w10 ((w10.drewN 1).alloc (.cells #[ι n,ι d,ι x] 338)):=(ql.drewN w10 1).al _;have aU:jt (λk=>(δ G b.holds.length cap).ownBlock=ϊ k) w10 ((w10.drewN 1).alloc (.cells #[ι n,ι d,ι x] 338)):=jt.of_more ay;refine⟨qi aU,H _ _ ?_⟩;clear H K
 (refine Ql ?_;intro K H)
 have bv:Vh b.holds (n,d,x) (δ G b.holds.length cap) (R+1) ((w10.drewN 1).alloc (.cells #[ι n,ι d,ι x] 338)) w10.heap.size:=⟨O.o.row.more ay,by have:=aE.o.size;have:=ay.size;have:=aP.o;omega,by have:=bp.o;omega,qC (w:=w10.drewN 1) rfl,λe=>by have:=(O.o.row.own_ge e).2;omega⟩;refine(Wk b.holds (atJ b.holds n) (Ua _ _) (n,d,x) _ (R+1) _ _ bv).mono ?_;rintro e bL ⟨v',rfl,bK,bw,bI⟩;have ad:=aU.trans bw;have bj:zT bL (R+1) v' (ue b.holds (n,d,x)):=by
  unfold ue;exact bK
 have bJ:v'.ownBlock=(δ G b.holds.length cap).ownBlock∨ ∃g,v'.ownBlock=ϊ g/\w.heap.size<=g:=bI.elim ϒ λh=>ϔ ⟨_,h,by have:=aE.o.size;have:=ay.size;omega⟩
 obtain⟨bX,bN,rfl,_⟩:=bj.shape;refine⟨_,rfl,qi ad,H _ _ ?_⟩;clear H K
 (refine Ql ?_;intro K H)
 refine⟨qi ad,H _ _ ?_⟩;clear H K
 iterate 1 (refine qE rfl rfl (qi ad) ?_;intro K H;go_big_quiet_op;go_big_quiet_on)
 have aV:=ad.blk O.o.blk bc;have aA:=qm aV 2 rfl;have bY:=yw aV 2
 (refine Qe ?_;intro K H)
 refine H _ _ ?_;clear H K;refine qA ?_;go_wp2;go_ret;exact⟨by rw[I.o];rfl,_,by rw[I.o];exact Bl O.o aE.o aP.o ad bj bJ⟩
def Ce (L:List Hd) (h:Hd):(ue L h).length=L.length+1:=by
 unfold ue;have:=Ua L h.1;rw[Ϗ,ϙ,Ϡ,ϣ];omega
def Xl (L:List Hd) (h k:Hd):k∈ue L h↔k=h∨k∈L:=by
 unfold ue;rw[ϡ,ϰ]
 conv=>rhs;rw[<-A9 (atJ L h.1) L,ϡ]
 constructor
 ·rintro(a | a | a)
  ·exact ϔ (ϒ a)
  ·exact ϒ a
  ·exact ϔ (ϔ a)
 ·rintro(a | a | a)
  ·exact ϔ (ϒ a)
  ·exact ϒ a
  ·exact ϔ (ϔ a)
def PD (k:Hd) (L:List Hd) (h:Hd):ue (k::L) h=if h.1<k.1 then h::k::L else k::ue L h:=by
 unfold ue atJ;rw[List.findIdx_cons];by_cases e:h.1<k.1
 ·simp[e]
 ·simp[e]
def ZU: ∀(L:List Hd) (h:Hd),(L.Pairwise λa c=>a.1<c.1)->(∀k∈L,¬k.1=h.1)->(ue L h).Pairwise λa c=>a.1<c.1
 | [],h,_,_=>by simp[ue,atJ]
 | k::L,h,hp,hn=>by
  rw[I1] at hp;rw[PD];by_cases e:h.1<k.1
  ·rw[ϐ e,I1,I1];refine⟨λc d=> ?_,hp.1,hp.2⟩;rcases ϰ.1 d with rfl | d
   ·exact e
   ·exact Int.lt_trans e (hp.1 c d)
  ·rw[ώ e,I1];have:=hn k Ϟ;refine⟨λc d=> ?_,ZU L h hp.2 λc d=>hn c (Ϩ _ d)⟩;rcases(Xl L h c).1 d with rfl | d
   ·omega
   ·exact hp.1 c d
def GF (b:Jb) (n:Int):JM b n=ύ↔ ∀k∈b.holds,¬k.1=n:=by
 unfold JM;rw[K2];constructor
 ·intro h k d e;exact h k d (by simpa using e)
 ·intro h k d e;exact h k d (by simpa using e)
def Uz (b:Jb) (n d x:Int):((jP b n d x).1=b/\(jP b n d x).2≠0)∨
  (jP b n d x=({b with holds:=ue b.holds (n,d,x)},0)/\JM b n=ύ/\(b.begun=ό->b.hi<n)/\(b.holds.length:Int)<b.room):=by
 unfold jP;by_cases h1:(JM b n||(b.begun&&yi b.hi b.bits n))=ό
 ·rw[ϐ h1];exact ϒ ⟨rfl,show (10:Int)≠0 by decide⟩
 ·rw[ώ h1];by_cases h2:(b.begun&&decide (n<b.hi+1))=ό
  ·rw[ϐ h2];exact ϒ ⟨rfl,show (9:Int)≠0 by decide⟩
  ·rw[ώ h2];by_cases h3:b.room<=b.holds.length
   ·rw[ϐ h3];exact ϒ ⟨rfl,show (8:Int)≠0 by decide⟩
   ·rw[ώ h3];refine ϔ ⟨rfl, ?_, ?_,τ⟩
    ·cases hs:JM b n with
     | false=>rfl
     | true=>rw[hs] at h1;simp at h1
    ·intro G;rw[G] at h2;simp at h2;omega
def Eu {b:Jb} (d:JOK b) {H x:Int} (N:xz n) (O:xz H):JOK (jP b n H x).1:=by
 rcases Uz b n H x with ⟨h,_⟩ | ⟨h,J,M,U⟩
 ·rw[h];exact d
 ·rw[h];refine⟨d.room,d.wait, ?_,λk G=> ?_,ZU _ _ d.rise ((GF b n).1 J),d.hi,d.bits,λI k G=> ?_⟩
  ·show ((ue b.holds (n,H,x)).length:Int)<=b.room;rw[Ce];omega
  ·rcases(Xl _ _ k).1 G with rfl | G
   ·exact⟨N,O⟩
   ·exact d.nums k G
  ·rcases(Xl _ _ k).1 G with rfl | G
   ·exact M I
   ·exact d.over I k G
def VL {b:Jb} (d:JOK b) {T:List Hd} (G:b.holds=h::T):JOK (xT b):=by
 have N:=d.nums h (by rw[G];exact Ϟ);have I:=d.rise;rw[G,I1] at I;have e:xT b={b with holds:=T,begun:=ό,hi:=(wK b h.1).1,bits:=(wK b h.1).2}:=by unfold xT;rw[G]
 have J:(wK b h.1).1=h.1:=by
  unfold wK;split
  ·rename_i M;rw[QD];have:=d.over M h (by rw[G];exact Ϟ);omega
  ·rfl
 rw[e];refine⟨d.room,d.wait, ?_,λk H=>d.nums k (by rw[G];exact Ϩ _ H),I.2, ?_, ?_,λ_ k H=> ?_⟩
 ·have:=d.fits;rw[G,ϙ] at this;show ((T.length:Nat):Int)<=b.room;omega
 ·show xz (wK b h.1).1;rw[J];exact N.1
 ·show U64 (wK b h.1).2;unfold wK;split
  ·exact VG _ _ _ d.bits
  ·exact(show U64 1 from ⟨ζ,ζ⟩)
 ·show (wK b h.1).1<k.1;rw[J];exact I.1 k H
def yD (b:Jb) (now:Int):Jb×Int×Int×Bool:=match b.holds with
 | []=>(b,0,0,ύ)
 | h::_=>if xa b now then (xT b,h.1,h.2.2,ό) else (b,0,0,ύ)
def FJ (b:Jb) (ae:JOK b) (R:Nat) (v:Value) (d:Int) (aj:xz d) (w:World) (M:xZ w R v b):
  Calls prog 133 #[γ R,ι d] w λe w'=>e= .returned (.tuple #[ι (yD b d).2.1,ι (yD b d).2.2.1,μ (yD b d).2.2.2])/\ ∃v',NQ w w' R v v' (yD b d).1:=by
 have aa:=κ M;have ab:=κ (Z7 b ae R v d aj w M);cases hr:xa b d with
 | false=>
  have J:yD b d=(b,0,0,ύ):=by
   unfold yD;cases b.holds with
   | nil=>rfl
   | cons h T=>simp only[hr];rfl
  rw[J];have O:=κ hr;clear J hr M
  go_enter func133,ntmps133
  go_wp2_with (go_at_call 119;(go_call ab.o as e w1 ⟨rfl,G⟩;rw[O.o];have H:=κ G;clear G))
  refine bodyPost_ret (v:= .tuple #[ι 0,ι 0,ύ]) (by simp[results,results133,go_sem]) rfl ?_;exact⟨rfl,v,NQ.keep H.o (aa.o.on H.o)⟩
 | true=>
  obtain⟨h,T,I⟩: ∃h T,b.holds=h::T:=by
   cases I:b.holds with
   | nil=>unfold xa at hr;rw[I] at hr;cases hr
   | cons h T=>exact⟨h,T,rfl⟩
  have J:yD b d=(xT b,h.1,h.2.2,ό):=by
   unfold yD;rw[I];simp only[hr];rfl
  rw[J];have O:=κ hr;have ag:=κ I;clear J hr M I
  go_enter func133,ntmps133
  go_wp2_with (first | (go_at_call 119;(go_call ab.o as e w1 ⟨rfl,G⟩;rw[O.o];have H:=κ G;have af:=κ (aa.o.on G);clear G)) | (go_at_call 178;(go_call Z9 b h T ag.o ae R v _ af.o as e w2 ⟨rfl,al,st⟩;have Y:=κ st;clear st)))
  obtain⟨W,N⟩: ∃W,W=w2.alloc (.cells #[ι h.1,ι h.2.1,ι h.2.2] 338):=⟨_,rfl⟩;have ad:W.heap[w2.heap.size]? =ϊ (.cells #[ι h.1,ι h.2.1,ι h.2.2] 338 (0,0)):=by rw[N];exact qj w2 _
  have ac:ql w2 W:=by rw[N];exact ql.alloc w2 _
  have U:=λ(x:qt W)=>qq x.h ad
  have an:=λx=>β0 (U x);have c2:=λx=>β2 (U x);clear U
  have ah:=κ ac;rw[<-N];clear N ad ac;generalize w2.heap.size=BX at *;refine qD W (ql.refl _) ξ ξ ?_
  repeat (go_big_quiet_step (fail))
  refine wpQuiet_nil ?_;intro _ ak;obtain⟨am,rfl⟩:=ak;go_wp2;refine bodyPost_ret (v:= .tuple #[ι h.1,ι h.2.2,ό]) (by simp[results,results133,go_sem]) rfl ?_;have m:=ah.o.trans am.h;refine⟨rfl,al,Y.o.buf.on m, ?_, ?_⟩
  ·exact jt.old H.o (Y.o.away.more m) λk ai=>ϒ ai
  ·exact Y.o.own.elim ϒ λ⟨g,a,c⟩=>ϔ ⟨g,a,Ϙ H.o.size c⟩
def Ok (room wait:Int):Prop:=1<=room/\room<=8/\0<=wait/\wait<=1000
instance (r w:Int):Decidable (Ok r w):=by unfold Ok;infer_instance
def CU (room wait:Int):Jb:=⟨room,wait,[],ύ,0,0⟩
def EJ {room d:Int} (h:Ok room d):JOK (CU room d):=
 ⟨⟨h.1,h.2.1⟩,⟨h.2.2.1,h.2.2.2⟩,(by show ((0:Nat):Int)<=room;have:=h.1;omega),λk G=>(by cases G),List.Pairwise.nil,(show xz 0 from ⟨ζ,ζ⟩),(show U64 0 from ⟨ζ,ζ⟩),λe=>(by cases e)⟩
def Lq (room d:Int) (w:World) (h: ¬Ok room d):
  Calls prog 41 #[ι room,ι d] w λe w'=>e= .returned (.tuple #[π ϋ,ι 1])/\w=w':=by
 by_cases h1:room<1
 ·clear h
  go_enter func41,ntmps41
  go_wp2
  go_ret2
  exact⟨rfl,rfl⟩
 ·by_cases h2:8<room
  ·clear h
   go_enter func41,ntmps41
   go_wp2
   go_ret2
   exact⟨rfl,rfl⟩
  ·by_cases h3:d<0
   ·clear h
    go_enter func41,ntmps41
    go_wp2
    go_ret2
    exact⟨rfl,rfl⟩
   ·have G:1000<d:=by unfold Ok at h;omega
    clear h
    go_enter func41,ntmps41
    go_wp2
    go_ret2
    exact⟨rfl,rfl⟩
def YM (room d:Int) (w:World) (h:Ok room d):
  Calls prog 41 #[ι room,ι d] w λe w'=>e= .returned (.tuple #[γ w.heap.size,ι 0])/\xZ w' w.heap.size (δ ϋ 0 0) (CU room d)/\ql w w'/\w.heap.size<w'.heap.size:=by
 obtain⟨G,H,I,J⟩:=h;have M: ¬room<1:=by omega
 have N: ¬8<room:=by omega
 have O: ¬d<0:=by omega
 have U: ¬1000<d:=by omega
 clear G H I J
 go_enter func41,ntmps41
 go_wp2
 go_ret2
 exact⟨rfl,⟨qj w _,World.ownsRow_nil _ _ _ _⟩,ql.alloc w _,η⟩
def UI {base e size n:Nat} (h:w.ownsRow base e size v n xs) (a:jt S w w') (H: ∀k,v.ownBlock=ϊ k-> ¬S k):w'.ownsRow base e size v n xs:=by
 obtain⟨d,G⟩:=h;refine⟨d, ?_⟩;rcases G with h | ⟨g,cap,cur,e1,hb,hg,rest⟩
 ·exact ϒ h
 ·exact ϔ ⟨g,cap,cur,e1,hb,a.blk hg (H g (by rw[e1];rfl)),rest⟩
structure DrJ (w0 wr:World) (R:Nat) (v0 v:Value) (b:Jb) (v3:Value) (A:List Int):Prop where
 buf:xZ wr R v b
 ok:JOK b
 row:wr.ownsRow w0.heap.size 3 1 v3 A.length (A.map (Value.int .i64))
 away:jt (λk=>k=R∨v0.ownBlock=ϊ k) w0 wr
 own:v.ownBlock=v0.ownBlock∨ ∃g,v.ownBlock=ϊ g/\w0.heap.size<=g
 sep: ∀k,v3.ownBlock=ϊ k->v.ownBlock≠ϊ k
def DrJ.step {H wr:World} {v0 v3:Value} {b:Jb} {T:List Hd} (G:DrJ H wr R v0 v b v3 A) (N:R<H.heap.size) (J:b.holds=h::T) (st:NQ wr w' R v v' (xT b)):DrJ H w' R v0 v' (xT b) v3 A:=by
 have M: ∀k,v3.ownBlock=ϊ k->H.heap.size<=k/\k<wr.heap.size:=λk d=>by
  rcases G.row.2 with ⟨rfl,_⟩ | ⟨g,cap,cur,rfl,J,I,_⟩
  ·cases d
  ·obtain rfl:g=k:=by injection d
   exact⟨J,lt_of_block I⟩
 refine⟨st.buf,VL G.ok J,UI G.row st.away λk d x=> ?_, ?_, ?_,λk d e=> ?_⟩
 ·rcases x with x | x
  ·have:=(M k d).1;omega
  ·exact G.sep k d x
 ·have a:jt (λk=>(k=R∨v0.ownBlock=ϊ k)∨H.heap.size<=k) H w':=(G.away.mono λk d=>ϒ d).trans (st.away.mono λk d=>by
   rcases d with d | d
   ·exact ϒ (ϒ d)
   ·rcases G.own with e | ⟨g,e,I⟩
    ·exact ϒ (ϔ (by rw[<-e];exact d))
    ·rw[e] at d;injection d with d
     exact ϔ τ)
  exact jt.old (ql.refl H) a λk d=>d
 ·rcases st.own with e | ⟨g,e,I⟩
  ·rw[e];exact G.own
  ·exact ϔ ⟨g,e,Ϙ G.away.size I⟩
 ·rcases st.own with e2 | ⟨g,e2,I⟩
  ·rw[e2] at e;exact G.sep k d e
  ·rw[e2] at e;injection e with e
   have:=(M k d).2;omega
def DrJ.on {G wr:World} {v0 v3:Value} {b:Jb} (d:DrJ G wr R v0 v b v3 A) (m:ql wr w'):DrJ G w' R v0 v b v3 A:=
 ⟨d.buf.on m,d.ok,jE d.row m,d.away.more m,d.own,d.sep⟩
def DrJ.put {H wr:World} {v0 v3 J:Value} {b:Jb} {A':List Int} (G:DrJ H wr R v0 v b v3 A) (ab:R<H.heap.size) (U:w'.ownsRow H.heap.size 3 1 J A'.length (A'.map (Value.int .i64))) (I:wr.grownBy w' v3.ownBlock) (Y:J.ownBlock=v3.ownBlock∨J.ownBlock=ϊ wr.heap.size):DrJ H w' R v0 v b J A':=by
 have M: ∀k,v3.ownBlock=ϊ k->H.heap.size<=k:=λk d=>by
  rcases G.row.2 with ⟨rfl,_⟩ | ⟨g,cap,cur,rfl,O,I,_⟩
  ·cases d
  ·obtain rfl:g=k:=by injection d
   exact O
 have a:jt (λk=>v3.ownBlock=ϊ k) wr w':=⟨I.os,I.tape,I.output,I.size,λk d aa=>I.block k d (λe=>aa e.symm)⟩;refine⟨⟨a.blk G.buf.blk λx=>by have:=M R x;omega,G.buf.row.away a λk d x=>G.sep k x d⟩,G.ok,U, ?_,G.own,λk d e=> ?_⟩
 ·have N:jt (λk=>(k=R∨v0.ownBlock=ϊ k)∨H.heap.size<=k) H w':=(G.away.mono λk d=>ϒ d).trans (a.mono λk d=>ϔ (M k d));exact jt.old (ql.refl H) N λk d=>d
 ·rcases Y with e2 | e2
  ·rw[e2] at d;exact G.sep k d e
  ·rw[e2] at d;injection d with d
   have:=(G.buf.row.own_ge e).2;omega
def Lz:Value->Nat
 | .slice _ n _=>n
 | _=>0
def XA {base e size n:Nat} (h:w.ownsRow base e size v n xs): ∃oa cap,v= δ oa n cap:=by
 rcases h.2 with ⟨rfl,d⟩ | ⟨g,cap,cur,rfl,_⟩
 ·exact⟨ϋ,0,by rw[d]⟩
 ·exact⟨_,cap,rfl⟩
def Qr:Nat->Jb->Jb
 | 0,b=>b
 | n+1,b=>Qr n (xT b)
def vP (b:Jb):Jb:=Qr b.holds.length b
def thJ (L:List Hd):List Int:=L.map λh=>h.2.2
def Wn (b:Jb) (ok:JOK b) (R:Nat) (v:Value) (w:World) (M:xZ w R v b):
  Calls prog 125 #[γ R] w λe w'=> ∃vx,e= .returned vx/\ ∃v',DrJ w w' R v v' (vP b) vx (thJ b.holds)/\(vP b).holds=[]:=by
 have ab:=lt_of_block M.blk;obtain⟨aq,hi,an,ao,ap⟩:=info_parts (P:=prog) (e:=3) (z:= ι 0) (size:=1) (bytes:=8) ξ;have aj:Hid (b.holds.length<=8):=κ (by have:=ok.fits;have:=ok.room;omega);have ag:Hid (DrJ w w R v v b (δ ϋ 0 0) []):=κ ⟨M,ok,World.ownsRow_nil _ _ _ _,jt.refl _ _,ϒ rfl,λk al=>by cases al⟩;clear M
 go_enter func125,ntmps125
 go_wp2
 go_loopw [3] (λv3 wr=> ∃v' d A,DrJ w wr R v v' d v3 A/\A++thJ d.holds=thJ b.holds/\Qr d.holds.length d=vP b) (λv3 _=>b.holds.length-Lz v3)
 case atStart=>exact⟨v,b,[],ag.o,rfl,rfl⟩
 case round=>
  obtain⟨v',d,A,H,N,ad⟩:=hrel;have Y:=κ ad;clear ad;have I:=κ H;have U:=κ N;obtain⟨_,_,c2,_,_,_⟩:=H.buf.cells ⟨wr,ql.refl _⟩;obtain⟨az,cap,rfl,av⟩:=H.buf.row.shape;obtain⟨ax,c3,rfl⟩:=XA H.row;have am:A.length+d.holds.length=b.holds.length:=by
   have:=ϯ List.length N;unfold thJ at this;rw[Ϗ,A6,A6] at this;exact this
  have aa:=κ am;clear H N;cases hb:d.holds with
  | nil=>
   have G:=κ hb;rw[hb,Ϫ] at c2;clear hb;have ai:Hid (A=thJ b.holds):=κ (by have:=U.o;rw[G.o] at this;simpa [thJ] using this);go_wp2;go_ret;have ac:d=vP b:=by have:=Y.o;rw[G.o] at this;exact this
   exact⟨_,rfl,⟨_,by rw[<-ai.o,<-ac];exact I.o⟩,by rw[<-ac];exact G.o⟩
  | cons h T=>
   have G:=κ hb;have aw:(0:Int)<(d.holds.length:Int):=by rw[hb];simp
   clear hb;have ak:=κ (Z9 d h T G.o I.o.ok R _ wr I.o.buf);have au: ∀w2,(Instr.field 338 (θ #[ι h.1,ι h.2.1,ι h.2.2]) 2).run prog w2= .ok (ι h.2.2) w2:=λw2=>by kernel_rfl
   go_wp2_with (first | (go_at_call 178;(go_call ak.o as e w2 ⟨rfl,ar,st⟩;have J:=κ (I.o.step ab G.o st);clear st c2)) | (at_builtin;refine qU _ rfl (.tmp 10) (.tmp 14) 107 rfl w.heap.size 3 aq (ι 0) 8 underlying107 hi an ao ap rfl _ .i64 A rfl (J.o.on W4).row _ [h.2.2] rfl (SlI.lit .i64 w2 [h.2.2] 3 _ 1 _ rfl rfl rfl η) (by have:=aj.o;have:=aa.o;simp only[ϙ,Ϫ];omega) ζ (by have:=J.o.away.size;simp;omega) ?_;intro v5 w5 O ae af;have ah:=κ ((J.o.on W4).put ab O ae af);obtain⟨ay,c5,rfl⟩:=XA O;clear O ae af))
   go_roundw
   case rel=>exact⟨ar,xT d,A++[h.2.2],(by have:=ah.o;rw[Ϗ] at this;exact this),by rw[show (xT d).holds=T by unfold xT;rw[G.o]];have:=U.o;rw[G.o] at this;rw[<-this];simp[thJ],by rw[show (xT d).holds=T by unfold xT;rw[G.o]];have:=Y.o;rw[G.o] at this;exact this⟩
   case measure=>have:=aa.o;rw[G.o] at this;simp[Lz] at *;omega
section
open Go.RowKit Go.ChangeMaps
section
variable {K V:Type} [DecidableEq K] {P:Program}
def yx (k:K):List (K×V)->Nat->Option (Nat×V)
 | [],_=>ϋ
 | (a,v)::l,i=>if k=a then ϊ (i,v) else yx k l (i+1)
def qh:List (K×V)->K->Option V
 | [],_=>ϋ
 | (a,v)::l,k=>if k=a then ϊ v else qh l k
def qx:List (K×V)->K->V->List (K×V)
 | [],k,v=>[(k,v)]
 | (a,b)::l,k,v=>if k=a then (k,v)::l else (a,b)::qx l k v
def yK:List (K×V)->K->List (K×V)
 | [],_=>[]
 | (a,b)::l,k=>if k=a then l else (a,b)::yK l k
def kQ {k:K} {v:V}: ∀{L:List (K×V)} {i j:Nat},yx k L j=ϊ (i,v)->j<=i/\L[i-j]? =ϊ (k,v)/\qh L k=ϊ v/\yK L k=L.eraseIdx (i-j)/\ ∀u,qx L k u=L.set (i-j) (k,u)
 | [],_,_,h=>by simp[yx] at h
 | (a,b)::l,i,j,h=>by
  unfold yx at h;by_cases e:k=a
  ·rw[ϐ e] at h;cases h;subst e;simp[qh,yK,qx]
  ·rw[ώ e] at h;obtain⟨M,G,H,I,J⟩:=kQ h;have d:i-j=(i-(j+1))+1:=by omega
   refine⟨τ,by rw[d];simpa using G,by simp[qh,e,H],by rw[d];simp[yK,e,I],λu=>by rw[d];simp[qx,e,J]⟩
def kR {k:K}: ∀{L:List (K×V)} {j:Nat},yx k L j=ϋ->qh L k=ϋ/\yK L k=L/\k∉L.map Prod.fst/\ ∀u,qx L k u=L++[(k,u)]
 | [],_,_=>by simp[qh,yK,qx]
 | (a,b)::l,j,h=>by
  unfold yx at h;by_cases e:k=a
  ·rw[ϐ e] at h;cases h
  ·rw[ώ e] at h;obtain⟨G,H,d,I⟩:=kR h;refine⟨by simp[qh,e,G],by simp[yK,e,H],by simp[e] at d ⊢;exact d,λu=>by simp[qx,e,I]⟩
def Pu (k:K) (L:List (K×V)) (j:Nat):(yx k L j).map (·.2)=qh L k:=by
 cases h:yx k L j with
 | none=>simp[(kR h).1]
 | some x=>obtain⟨i,v⟩:=x;simp[(kQ h).2.2.1]
structure yz (P:Program) (kt:TypeId) (ke:K->Value):Prop where
 look: ∀(V:Type) (ve:V->Value) (k:K) (L:List (K×V)) (es:List MapEntry) (w:World),es.map (λe=>(e.key,e.val))=L.map (λp=>(ke p.1,ve p.2))->(Instr.findKey kt (ke k) es).run P w= .ok ((yx k L 0).map λx=>(x.1,ve x.2)) w
 check: ∀b k w,(Instr.checkKey b 10000 kt (ke k)).run P w= .ok () w
 same: ∀k,Instr.sameBits 10000 (ke k) (ke k)=ό
def Ja {ke:K->Value} {G:V->Value} {d:TypeDesc} (h: ∀a b,Instr.sameNow d (ke a) (ke b)=ϊ (decide (a=b))) (k:K): ∀(L:List (K×V)) (es:List MapEntry) (i:Nat),
  es.map (λe=>(e.key,e.val))=L.map (λp=>(ke p.1,G p.2))->Instr.findNow d (ke k) es i=ϊ ((yx k L i).map λx=>(x.1,G x.2))
 | [],[],_,_=>rfl
 | [],_::_,_,e=>by simp at e
 | _::_,[],_,e=>by simp at e
 | (a,v)::l,x::es,i,e=>by
  simp only[Ϭ,N2,C3] at e;unfold Instr.findNow yx;rw[e.1.1,h];by_cases hk:k=a
  ·simp[hk,e.1.2]
  ·simp[hk,Ja h k l es (i+1) e.2]
omit [DecidableEq K] in
def UT {ke:K->Value} {G:V->Value} {d:TypeDesc} (h: ∀a b,Instr.sameNow d (ke a) (ke b)=ϋ) (k:K): ∀(L:List (K×V)) (es:List MapEntry) (i:Nat),
  es.map (λe=>(e.key,e.val))=L.map (λp=>(ke p.1,G p.2))->Instr.findNow d (ke k) es i=if L=[] then ϊ ϋ else ϋ
 | [],[],_,_=>rfl
 | [],_::_,_,e=>by simp at e
 | _::_,[],_,e=>by simp at e
 | (a,v)::l,x::es,i,e=>by
  simp only[Ϭ,N2,C3] at e;unfold Instr.findNow;rw[e.1.1,h];simp
def uL {ke:K->Value} {G:V->Value} (h: ∀a b,(Op.equal d (ke a) (ke b)).run P w= .ok (decide (a=b)) w) (k:K): ∀(L:List (K×V)) (es:List MapEntry) (i:Nat),
  es.map (λe=>(e.key,e.val))=L.map (λp=>(ke p.1,G p.2))->(Instr.findAsking d (ke k) es i).run P w= .ok ((yx k L i).map λx=>(x.1,G x.2)) w
 | [],[],_,_=>rfl
 | [],_::_,_,e=>by simp at e
 | _::_,[],_,e=>by simp at e
 | (a,v)::l,x::es,i,e=>by
  simp only[Ϭ,N2,C3] at e;unfold Instr.findAsking yx;rw[Sem.run_bind,e.1.1,h];by_cases hk:k=a
  ·simp[hk,Result.andThen,e.1.2,Sem.run,pure]
  ·simp[hk,Result.andThen,uL h k l es (i+1) e.2]
def yz.of_now {ke:K->Value} {G:TypeDesc} (M:P.underlying d=ϊ G) (h: ∀a b,Instr.sameNow G (ke a) (ke b)=ϊ (decide (a=b)))
  (I: ∀b k w,(Instr.checkKey b 10000 d (ke k)).run P w= .ok () w) (J: ∀k,Instr.sameBits 10000 (ke k) (ke k)=ό):yz P d ke:=
 ⟨λV N k L H w e=>by
  unfold Instr.findKey;rw[Sem.run_bind,run_underlying M]
  simp[Result.andThen,Ja h k L H 0 e,Sem.run,pure],I,J⟩
def yz.of_ask {ke:K->Value} {H:TypeDesc} (N:P.underlying d=ϊ H) (h: ∀a b,Instr.sameNow H (ke a) (ke b)=ϋ) (J: ∀a b w,(Op.equal d (ke a) (ke b)).run P w= .ok (decide (a=b)) w)
  (I: ∀b k w,(Instr.checkKey b 10000 d (ke k)).run P w= .ok () w) (M: ∀k,Instr.sameBits 10000 (ke k) (ke k)=ό):yz P d ke:=
 ⟨λV O k L G w e=>by
  unfold Instr.findKey;rw[Sem.run_bind,run_underlying N];simp only[Result.andThen,UT h k L G 0 e];by_cases hL:L=[]
  ·subst hL;simp[yx,Sem.run,pure]
  ·simp[hL,uL (λa b=>J a b w) k L G 0 e],I,M⟩
structure jk (w:World) (b:Nat) (ke:K->Value) (ve:V->Value) (L:List (K×V)):Prop where
 ex: ∃es clock,w.heap[b]? =ϊ (.map es clock)/\es.toList.map (λe=>(e.key,e.val))=L.map (λp=>(ke p.1,ve p.2))/\(es.toList.map (·.born)).Nodup/\ ∀e∈es.toList,e.born<clock
 keys:(L.map Prod.fst).Nodup
variable {w:World} {b:Nat} {ke:K->Value} {ve:V->Value} {L:List (K×V)}
omit [DecidableEq K] in
def jk.lt (h:jk w b ke ve L):b<w.heap.size:=by obtain⟨⟨_,_,d,_⟩,_⟩:=h;exact lt_of_block d
omit [DecidableEq K] in
def jk.made (w:World) (ke:K->Value) (d:V->Value):jk (w.alloc (.map #[] 0)) w.heap.size ke d []:=
 ⟨⟨#[],0,qj _ _,rfl,η,η⟩,η⟩
omit [DecidableEq K] in
def jk.away (h:jk w b ke ve L) (m:jt S w w') (H: ¬S b):jk w' b ke ve L:=by
 obtain⟨⟨d,c,G,r⟩,k⟩:=h;exact⟨⟨d,c,m.blk G H,r⟩,k⟩
omit [DecidableEq K] in
def jk.more (h:jk w b ke ve L) (m:ql w w'):jk w' b ke ve L:=h.away (jt.of_more (S:=λ_=>False) m) (λx=>x)
def yf {b:Nat} {G:Array MapEntry} (H:w.heap[b]? =ϊ (.map G c)) (d:Obj):(setObj b d).run P w= .ok () (setBlock w b d):=by
 simp[setObj,Sem.run,H,setBlock]
def j7 {b:Nat} {d:Array MapEntry} (G:w.heap[b]? =ϊ (.map d c)):(getObj b).run P w= .ok (.map d c) w:=by
 simp[getObj,Sem.run,G]
def zG (w:World) (b:Nat) (o:Obj):jt (λx=>x=b) w (setBlock w b o):=
 ⟨rfl,rfl,rfl,by simp[setBlock],λk _ d=>by
  simp only[setBlock]
  rw[D0 (λe=>d e.symm)]⟩
def zD (w:World) (b:Nat) (o:Obj):(setBlock w b o).heap.size=w.heap.size:=by simp[setBlock]
def jk.look {N I t:TypeId} {z:Value} (h:jk w b ke ve L) (H:yz P N ke) (M:P.underlying t=ϊ (.map N I)) (Y:(zeroValue I).run P w= .ok z w) (k:K) (c:Bool):
  (Instr.lookup t (.map (ϊ b)) (ke k) c).run P w= .ok (if c then .tuple #[((qh L k).map ve).getD z,μ (qh L k).isSome] else ((qh L k).map ve).getD z) w:=by
 obtain⟨⟨O,aa,J,U,_⟩,_⟩:=h;have G:=H.look V ve k L O.toList w U;have d:=Pu k L 0;unfold Instr.lookup;cases hq:yx k L 0 with
 | none=>
  rw[hq] at G d;simp only[N3] at G d;simp[run_underlying M,j7 J,H.check,G,Y,<-d,go_sem]
 | some x=>
  rw[hq] at G d;simp only[C6] at G d;simp[run_underlying M,j7 J,H.check,G,<-d,go_sem]
def Jq {d:List MapEntry} {k:Value}:(d.modify i λe=>{e with key:=k,val:=v}).map (λe=>(e.key,e.val))=(d.map λe=>(e.key,e.val)).set i (k,v):=by
 induction d generalizing i with
 | nil=>simp
 | cons x l ih=>
  cases i with
  | zero=>simp[List.modify_cons]
  | succ i=>simp[ih]
def kA {d:List MapEntry} {k:Value}:(d.modify i λe=>{e with key:=k,val:=v}).map (·.born)=d.map (·.born):=by
 induction d generalizing i with
 | nil=>simp
 | cons x l ih=>
  cases i with
  | zero=>simp[List.modify_cons]
  | succ i=>simp[ih]
omit [DecidableEq K] in
def XT {k:K} {u:V} {v:V} (h:L[i]? =ϊ (k,v)):((L.set i (k,u)).map Prod.fst)=L.map Prod.fst:=by
 rw[V4];refine K0 λj=> ?_
 rw[List.getElem?_set];by_cases hj:i=j
 ·subst hj;have hi:i<L.length:=(Ϛ.1 h).1;have e:=(Ϛ.1 h).2;simp[hi,e]
 ·simp[hj]
def jk.update {ai ak t:TypeId} (h:jk w b ke ve L) (J:yz P ai ke) (ah:P.underlying t=ϊ (.map ai ak)) (k:K) (u:V):
  ∃w',(Instr.mapUpdate t (.map (ϊ b)) (ke k) (ve u)).run P w= .ok () w'/\jk w' b ke ve (qx L k u)/\jt (λx=>x=b) w w'/\w'.heap.size=w.heap.size:=by
 obtain⟨⟨G,Y,H,U,ag,ac⟩,ae⟩:=h;have I:=J.look V ve k L G.toList w U;unfold Instr.mapUpdate;cases hq:yx k L 0 with
 | none=>
  rw[hq] at I;simp only[N3] at I;obtain⟨ap,M,ad,N⟩:=kR hq;refine⟨setBlock w b (.map (G.push {key:=ke k,val:=ve u,born:=Y}) (Y+1)), ?_,⟨⟨_,_,heap_setBlock_same H _, ?_, ?_, ?_⟩, ?_⟩,zG _ _ _,zD _ _ _⟩
  ·simp[run_underlying ah,j7 H,J.check,I,yf H,go_sem]
  ·rw[N];simp[U]
  ·simp only[Array.toList_push,Ξ,Ϭ,D5];rw[G3];refine⟨ag,η,λa ab c O=> ?_⟩;obtain⟨e,d,rfl⟩:=B6.1 ab;have:=ac e d;simp at O;omega
  ·intro e d;simp at d;rcases d with d | rfl
   ·have:=ac e (by simpa using d);omega
   ·exact F5 _
  ·rw[N];rw[Ξ,G3];refine⟨ae,η,λa ab c O=> ?_⟩;simp at O;subst O;intro e;subst e;exact ad ab
 | some x=>
  obtain⟨i,v⟩:=x;rw[hq] at I;simp only[C6] at I;obtain⟨ap,M,ad,N,aa⟩:=kQ hq;simp only[Nat.sub_zero] at M N aa;have hi:(G.toList.map (λe=>(e.key,e.val)))[i]? =ϊ (ke k,ve v):=by rw[U,G4,M];rfl
  rw[G4] at hi;obtain⟨e0,al,am⟩:=M4.1 hi;have an:G[i]? =ϊ e0:=by simpa using al
  have ao:e0.key=ke k:=ϯ Prod.fst am;have aq:(Instr.keyThatStays (((G[i]?).map (·.key)).getD (ke k)) (ke k)).run P w= .ok (ke k) w:=by
   rw[an];simp only[C6,ϥ,ao];unfold Instr.keyThatStays;rw[J.same];rfl
  refine⟨setBlock w b (.map (G.modify i λe=>{e with key:=ke k,val:=ve u}) Y), ?_,⟨⟨_,_,heap_setBlock_same H _, ?_, ?_, ?_⟩, ?_⟩,zG _ _ _,zD _ _ _⟩
  ·simp only[run_underlying ah,j7 H,J.check,I,Sem.run_bind,Result.andThen,aq,yf H]
  ·rw[aa,N5,Jq,U,V4]
  ·rw[N5,kA];exact ag
  ·intro e d;have af:e.born∈((G.modify i λe=>{e with key:=ke k,val:=ve u}).toList.map (·.born)):=K7 d;rw[N5,kA] at af;obtain⟨aj,ar,au⟩:=B6.1 af;rw[<-au];exact ac aj ar
  ·rw[aa,XT M];exact ae
end
end
section
open Go.RowKit Go.ChangeMaps
def uZ: ∀{l m:List Nat},l.Nodup->l ⊆ m->l.length<=m.length
 | [],_,_,_=>Ψ _
 | a::t,m,h,hs=>by
  simp only[D4] at h;have d:a∈m:=hs Ϟ;have I:t ⊆ m.erase a:=λx G=>(T3 (λe=>h.1 (by rw[<-e];exact G))).2 (hs (Ϩ _ G))
  have H:=uZ h.2 I;rw[P5 d] at H;have:=List.length_pos_of_mem d;simp only[ϙ];omega
def XE: ∀{l m:List Nat},l.Nodup->l ⊆ m->m.length<=l.length->l.Perm m
 | [],m,_,_,hl=>by
  have:m=[]:=Ϧ (by simpa using hl);rw[this]
 | a::t,m,h,hs,hl=>by
  simp only[D4] at h;have d:a∈m:=hs Ϟ;have I:t ⊆ m.erase a:=λx G=>(T3 (λe=>h.1 (by rw[<-e];exact G))).2 (hs (Ϩ _ G))
  have H:=XE h.2 I (by rw[P5 d];simp at hl;omega);exact(H.cons a).trans (List.perm_cons_erase d).symm
section
variable {K V:Type} [DecidableEq K] {P:Program} {w:World} {b:Nat} {ke:K->Value} {ve:V->Value} {L:List (K×V)}
def ZO (k:K): ∀(L:List (K×V)),(L.map Prod.fst).Nodup->((yK L k).map Prod.fst).Nodup
 | [],h=>h
 | (a,b)::l,h=>by
  simp only[Ϭ,D4] at h;unfold yK;split
  ·exact h.2
  ·simp only[Ϭ,D4];refine⟨λG=>h.1 ?_,ZO k l h.2⟩;obtain⟨x,d,e⟩:=B6.1 G;rw[<-e];refine K7 ?_;clear h G e
   induction l with
   | nil=>exact d
   | cons y l ih=>
    obtain⟨c,H⟩:=y;unfold yK at d;split at d
    ·exact Ϩ _ d
    ·rcases ϰ.1 d with rfl | d
     ·exact Ϟ
     ·exact Ϩ _ (ih d)
def jk.drop {Y af t:TypeId} (h:jk w b ke ve L) (M:yz P Y ke) (ae:P.underlying t=ϊ (.map Y af)) (k:K) (ak:TypeId):
  ∃w',(Builtin.delete_ #[t,Y] ak #[.map (ϊ b),ke k]).run P w= .ok (.tuple #[]) w'/\jk w' b ke ve (yK L k)/\jt (λx=>x=b) w w'/\w'.heap.size=w.heap.size:=by
 have ab:=ZO k L h.keys;obtain⟨⟨d,N,G,J,ad,aa⟩,al⟩:=h;have H:=M.look V ve k L d.toList w J;unfold Builtin.delete_;cases hq:yx k L 0 with
 | none=>
  rw[hq] at H;simp only[N3] at H;obtain⟨ag,I,ah,U⟩:=kR hq;refine⟨setBlock w b (.map d N), ?_,⟨⟨d,N,heap_setBlock_same G _,by rw[I];exact J,ad,aa⟩,ab⟩,zG _ _ _,zD _ _ _⟩;simp[run_underlying ae,j7 G,M.check,H,yf G,go_sem]
 | some x=>
  obtain⟨i,v⟩:=x;rw[hq] at H;simp only[C6] at H;obtain⟨ag,I,ah,U,ai⟩:=kQ hq;simp only[Nat.sub_zero] at I U ai;have hi:i<d.size:=by
   have aj:=ϯ List.length J;simp at aj;have:=(Ϛ.1 I).1;omega
  have O:(d.eraseIdxIfInBounds i).toList=d.toList.eraseIdx i:=by simp[Array.eraseIdxIfInBounds,hi]
  refine⟨setBlock w b (.map (d.eraseIdxIfInBounds i) N), ?_,⟨⟨_,_,heap_setBlock_same G _, ?_, ?_, ?_⟩,ab⟩,zG _ _ _,zD _ _ _⟩
  ·simp[run_underlying ae,j7 G,M.check,H,yf G,go_sem]
  ·rw[U,O,map_eraseIdx,J,map_eraseIdx]
  ·rw[O,map_eraseIdx];exact List.Nodup.sublist (S1 _ _) ad
  ·intro e ac;rw[O] at ac;exact aa e (List.Sublist.mem ac (S1 _ _))
structure jW (w:World) (r b:Nat) (ke:K->Value) (ve:V->Value) (L:List (K×V)) (is:List Nat):Prop where
 ex: ∃(es:Array MapEntry) (clock since c0:Nat) (seen:Array Nat),w.heap[r]? =ϊ (.mapIter (ϊ b) since seen c0)/\w.heap[b]? =ϊ (.map es clock)/\seen.toList=is.map (λi=>(es[i]?.map (·.born)).getD 0)/\
  es.toList.map (λe=>(e.key,e.val))=L.map (λp=>(ke p.1,ve p.2))/\(es.toList.map (·.born)).Nodup/\(∀e∈es.toList,e.born<since)/\since<=c0/\since<=clock/\(∀e∈es.toList,e.born<clock)
 nd:is.Nodup
 lt: ∀i∈is,i<L.length
 keys:(L.map Prod.fst).Nodup
def jW.away (h:jW w r b ke ve L is) (m:jt S w w') (J: ¬S r) (N: ¬S b):jW w' r b ke ve L is:=by
 obtain⟨⟨H,G,U,d,O,M,I,rest⟩,n,l,k⟩:=h;exact⟨⟨H,G,U,d,O,m.blk M J,m.blk I N,rest⟩,n,l,k⟩
def jW.more (h:jW w r b ke ve L is) (m:ql w w'):jW w' r b ke ve L is:=h.away (jt.of_more (S:=λ_=>False) m) (λx=>x) (λx=>x)
def jW.rlt (h:jW w r b ke ve L is):r<w.heap.size:=by
 obtain⟨⟨I,H,M,G,J,d,_⟩,_⟩:=h;exact lt_of_block d
def jk.range {Y J t:TypeId} (h:jk w b ke ve L) (U:P.underlying t=ϊ (.map Y J)):
  ∃w',(Instr.range t (.map (ϊ b))).run P w= .ok (γ w.heap.size) w'/\jW w' w.heap.size b ke ve L []/\ql w w'/\w'.heap.size=w.heap.size+1:=by
 obtain⟨⟨I,d,G,M,O,H⟩,N⟩:=h;refine⟨w.alloc (.mapIter (ϊ b) d #[] d), ?_,⟨⟨I,d,d,d,#[],qj _ _,qs G _,rfl,M,O,H,ϕ _,ϕ _,H⟩,O4,η,N⟩,ql.alloc _ _,η⟩;unfold Instr.range;simp[run_underlying U,j7 G,go_sem]
def jW.next (h:jW w r b ke ve L is):
  (is.length=L.length/\ ∀ac,(Instr.next (γ r) ύ ac).run P w= .ok (.tuple #[μ ύ]) w)∨
  ∃(i:Nat) (hi:i<L.length) (w':World),i∉is/\is.length<L.length/\(∀ac,(Instr.next (γ r) ύ ac).run P w= .ok (.tuple #[μ ό,ke L[i].1,ve L[i].2]) w')/\
   jW w' r b ke ve L (is++[i])/\jt (λx=>x=r) w w'/\w'.heap.size=w.heap.size/\(Instr.entry (γ r)).run P w'= .ok (.tuple #[ke L[i].1,ve L[i].2]) w':=by
 obtain⟨⟨d,I,M,an,H,aj,U,ay,ae,ah,ax,aA,ao,aE⟩,am,ab,aG⟩:=h;have aH:d.size=L.length:=by
  have:=ϯ List.length ae
  simpa using this
 have aD: ∀(i j:Nat) (hi:i<d.size) (G:j<d.size),d[i].born=d[j].born->i=j:=λi j hi G e=>by
  have av:=P1.1 ah;rcases Nat.lt_trichotomy i j with h | h | h
  ·exact ϩ (by rw[J1,J1];exact e) (av i j (by simpa using hi) (by simpa using G) h)
  ·exact h
  ·exact ϩ (by rw[J1,J1];exact e.symm) (av j i (by simpa using G) (by simpa using hi) h)
 have ar: ∀i (hi:i<d.size),(d[i].born∈H.toList↔i∈is):=λi hi=>by
  rw[ay];constructor
  ·intro J;obtain⟨j,G,e⟩:=B6.1 J;have au:j<d.size:=by rw[aH];exact ab j G
   simp[au] at e;rw[aD i j hi au e.symm];exact G
  ·intro J;exact B6.2 ⟨i,J,by simp[hi]⟩
 rcases run_next_at (P:=P) w 0 r b M an H d I aj U ax aA with ⟨aM,ak⟩ | ⟨e,J,w1,aa,ak⟩
 ·left;refine⟨?_,λ_=>ak⟩;have aB: ∀i,i<L.length->i∈is:=λi hi=>by
   have aF:i<d.size:=by omega
   by_cases J:i∈is
   ·exact J
   ·exfalso;have:d[i]∈(leftOf d H).toList:=by
     unfold leftOf;simp only[T9,G6];refine⟨η, ?_⟩;have al:=mt (ar i aF).1 J
     simpa using al
    have ap:(leftOf d H).toList.length=0:=by simpa using aM
    rw[J2] at ap;rw[ap] at this;cases this
  have aN:is.length<=L.length:=by
   have:is ⊆ List.range L.length:=λi hi=>M7.2 (ab i hi)
   simpa using uZ am this
  have p2:L.length<=is.length:=by
   have:List.range L.length ⊆ is:=λi hi=>aB i (M7.1 hi)
   simpa using uZ List.nodup_range this
  omega
 ·right;have ag:e∈d.toList/\e.born∉H.toList:=by
   unfold leftOf at J;simp only[T9,G6] at J;exact⟨J.1,by simpa using J.2⟩
  obtain⟨i,hi,az⟩:=A4.1 ag.1;have af:i<d.size:=by simpa using hi
  have Y:i<L.length:=by omega
  have e0:d[i]=e:=by simpa using az
  have ai:i∉is:=by
   intro al;exact ag.2 (by rw[<-e0];exact(ar i af).2 al)
  have O:(e.key,e.val)=(ke L[i].1,ve L[i].2):=by
   have:=ϯ (λl=>l[i]?) ae;simp[af,Y,e0] at this;simp[this]
  simp only[C3] at O;have aK:w1.heap[r]? =ϊ (.mapIter (ϊ b) M H an):=by rcases aa with rfl | rfl<;>exact aj
  have aC:w1.heap[b]? =ϊ (.map d I):=by rcases aa with rfl | rfl<;>exact U
  have aL:b≠r:=by intro e;rw[e,aj] at U;cases U
  have aw:(setBlock w1 r (.mapIter (ϊ b) M (H.push e.born) I)).heap[r]? =ϊ (.mapIter (ϊ b) M (H.push e.born) I):=by
   simp only[setBlock];rw[Array.getElem?_setIfInBounds_self_of_lt (lt_of_block aK)]
  have aq:(setBlock w1 r (.mapIter (ϊ b) M (H.push e.born) I)).heap[b]? =ϊ (.map d I):=by
   simp only[setBlock];rw[D0 (λe=>aL e.symm)];exact aC
  have aI:is.length<L.length:=by
   have aJ:(is++[i]).Nodup:=by
    rw[G3];refine⟨am,η,λa ad c N=> ?_⟩;simp at N;subst N;intro e;subst e;exact ai ad
   have:is++[i] ⊆ List.range L.length:=λj G=>by
    simp at G;rcases G with G | rfl
    ·exact M7.2 (ab j G)
    ·exact M7.2 Y
   have:=uZ aJ this;simp at this;omega
  refine⟨i,Y,setBlock w1 r (.mapIter (ϊ b) M (H.push e.born) I),ai,aI,λac=>by rw[<-O.1,<-O.2];exact ak,⟨⟨d,I,M,I,H.push e.born,aw,aq, ?_,ae,ah,ax,ao,ao,aE⟩, ?_, ?_,aG⟩, ?_, ?_, ?_⟩
  ·simp[ay,af,e0]
  ·rw[G3];refine⟨am,η,λa ad c N=> ?_⟩;simp at N;subst N;intro e;subst e;exact ai ad
  ·intro j G;simp at G;rcases G with G | rfl
   ·exact ab j G
   ·exact Y
  ·have:=zG w1 r (.mapIter (ϊ b) M (H.push e.born) I);rcases aa with rfl | rfl
   ·exact this
   ·exact⟨this.os,this.tape,this.output,this.size,this.block⟩
  ·rw[zD];rcases aa with rfl | rfl<;>rfl
  ·rw[run_entry_at _ r b M H d I e aw aq ag.1 ah,O.1,O.2]
def uO (w:World) (b r:Nat):Nat:=match w.heap[r]?,w.heap[b]? with
 | some (.mapIter _ _ seen _),ϊ (.map es _)=>es.size-seen.size
 | _,_=>0
def jW.left (h:jW w r b ke ve L is):uO w b r=L.length-is.length:=by
 obtain⟨⟨d,Y,aa,U,O,M,I,N,J,_⟩,_⟩:=h;have G:d.size=L.length:=by
  have:=ϯ List.length J
  simpa using this
 have H:O.size=is.length:=by
  have:=ϯ List.length N
  simpa using this
 unfold uO;rw[M,I];simp only[G,H]
def zj (L:List (K×V)) (is:List Nat):List (K×V):=is.filterMap λi=>L[i]?
def uW (hi:i<L.length):zj L (is++[i])=zj L is++[L[i]]:=by
 simp[zj,J7,hi]
def jW.perm (h:jW w r b ke ve L is) (I:is.length=L.length):(zj L is).Perm L:=by
 have M:is ⊆ List.range L.length:=λi hi=>M7.2 (h.lt i hi)
 have J:is.Perm (List.range L.length):=XE h.nd M (by simp[I]);have d:=J.filterMap (λi=>L[i]?);have G:(List.range L.length).filterMap (λi=>L[i]?)=L:=by
  refine K0 λj=> ?_
  have H: ∀n,n<=L.length->(List.range n).filterMap (λi=>L[i]?)=L.take n:=by
   intro n
   induction n with
   | zero=>simp
   | succ n ih=>
    intro N;rw[Q8,J7,ih τ,ϵ τ];simp[show n<L.length by omega]
  rw[H L.length (ϕ _),ϱ]
 rw[G] at d;exact d
end
def Ab {G:TypeId} (d:P.underlying G=ϊ (.int q)):yz P G (Value.int q):=
 yz.of_now d (λa b=>by simp[Instr.sameNow];rw[E0];simp) (λb k w=>by
  rw[show (10000:Nat)=9999+1 from rfl];unfold Instr.checkKey;rw[Sem.run_bind,run_underlying d]
  rfl) (λk=>by simp[Instr.sameBits])
end
abbrev Bk:=List ((Int×Int)×Int)
variable {m:Bk}
def ke2 (k:Int×Int):Value:= .agg #[.int .i64 k.1,.int .i64 k.2]
def PN (a b:Int×Int) (w:World):(Op.equal 169 (ke2 a) (ke2 b)).run prog w= .ok (decide (a=b)) w:=by
 have J:prog.stoodInHeld 169=ύ:=by kernel_rfl
 obtain⟨d,G⟩:=a;obtain⟨H,I⟩:=b;unfold Op.equal ke2;rw[show Op.maxDepth=9999+1 from rfl,run_equalIn_agg w 9999 169 _ _ ξ J];simp[go_sem];by_cases e1:d=H<;>by_cases e2:G=I<;>simp[e1,e2]
def Dg (G:P.underlying d=ϊ (.int q)) (n:Nat) (H:0<n) (b:Bool) (x:Int) (w:World):(Instr.checkKey b n d (.int q x)).run P w= .ok () w:=by
 obtain⟨m,rfl⟩: ∃m,n=m+1:=⟨n-1,τ⟩;unfold Instr.checkKey;rw[Sem.run_bind,run_underlying G];rfl
def Ys:yz prog 169 ke2:=
 yz.of_ask underlying169 (λa b=>by simp[Instr.sameNow]) PN (λb k w=>by
  rw[show (10000:Nat)=9999+1 from rfl];unfold Instr.checkKey ke2
  simp[run_underlying underlying169,go_sem,Dg underlying3 9999 ζ]) (λk=>by simp[Instr.sameBits,ke2])
structure jy (w:World) (B b:Nat) (m:Bk):Prop where
 blk:w.heap[B]? =ϊ (.cells #[.map (ϊ b)] 238 (0,0))
 map:jk w b ke2 (Value.int .i64) m
 ok: ∀p∈m,0<=p.2/\p.2<=8
def jy.ne {b:Nat} (h:jy w B b m):B≠b:=by
 intro e;obtain⟨H,G,d,_⟩:=h.map.ex;have:=h.blk;rw[e,d] at this;cases this
def jy.more {b:Nat} (h:jy w B b m) (d:ql w w'):jy w' B b m:=⟨qq d h.blk,h.map.more d,h.ok⟩
def jy.away {b:Nat} (h:jy w B b m) (a:jt S w w') (d: ¬S B) (G: ¬S b):jy w' B b m:=⟨a.blk h.blk d,h.map.away a G,h.ok⟩
def Gu (w:World):(zeroValue 80).run prog w= .ok (ι 0) w:=by kernel_rfl
def jy.look {b:Nat} (h:jy w B b m) (k:Int×Int) (n:Nat):
  (Instr.lookup 236 (.map (ϊ b)) (θ #[ι k.1,ι k.2]) ό).run prog (w.drewN n)= .ok (.tuple #[ι ((qh m k).getD 0),μ (qh m k).isSome]) (w.drewN n):=by
 have:=(h.map.more (ql.drewN w n)).look Ys underlying236 (Gu _) k ό;unfold ke2 at this;rw[this];cases qh m k<;>rfl
def Nv (w:World):Calls prog 43 #[] w λe w'=> ∃B b,e= .returned (γ B)/\w.heap.size<=B/\w.heap.size<=b/\jy w' B b []/\ql w w':=by
 go_enter func43,ntmps43
 have d:= @run_makeMap prog;go_wp2;go_ret;exact⟨w.heap.size+1,w.heap.size,rfl,τ,τ,⟨qC η,(jk.made w ke2 (Value.int .i64)).more W4,η⟩,W4.al _⟩
def MK {b:Nat} (h:jy w B b m) (k:Int×Int):
  Calls prog 61 #[γ B,θ #[ι k.1,ι k.2]] w λe w'=>e= .returned (.tuple #[ι ((qh m k).getD 0),μ (qh m k).isSome])/\ql w w':=by
 have d:=h.more (ql.alloc w (.cells #[ι k.1,ι k.2] 169));have H:=β0 d.blk;have q:=d.look k;clear d h
 go_enter func61,ntmps61
 go_wp2;refine wp_region_quiet_lit ξ ξ ?_
 repeat (go_big_quiet_step (fail))
 refine wpQuiet_nil ?_;intro _ G;obtain⟨nq,rfl⟩:=G;go_wp2
 go_ret2
 exact⟨rfl,W4.dr _⟩
def vT (m:Bk) (k:Int×Int):Bk×Int:=if 0<=k.1/\k.1<6/\0<=k.2 then (if (qh m k).isSome then (m,6) else (qx m k 0,0)) else (m,1)
def zi (m:Bk) (k:Int×Int) (f:Int):Bk×Int:=if 1<=f/\f<=8 then (if (qh m k).isSome then (if (qh m k).getD 0=0 then (qx m k f,0) else (m,6)) else (m,5)) else (m,1)
def VE {K V:Type} [DecidableEq K] {k:K} {v:V}: ∀{m:List (K×V)} {p:K×V},p∈qx m k v->p∈m∨p=(k,v)
 | [],p,h=>by simp[qx] at h;exact ϔ h
 | (a,b)::l,p,h=>by
  unfold qx at h;split at h
  ·rcases ϰ.1 h with h | h
   ·exact ϔ h
   ·exact ϒ (Ϩ _ h)
  ·rcases ϰ.1 h with h | h
   ·exact ϒ (by rw[h];exact Ϟ)
   ·rcases VE h with h | h
    ·exact ϒ (Ϩ _ h)
    ·exact ϔ h
def jy.put {b:Nat} (h:jy w B b m) (a:jt (λx=>x=b) w w') {k:Int×Int} {f:Int} (G:0<=f/\f<=8) (H:jk w' b ke2 (Value.int .i64) (qx m k f)):jy w' B b (qx m k f):=
 ⟨a.blk h.blk h.ne,H,λp d=>by
  rcases VE d with d | rfl
  ·exact h.ok p d
  ·exact G⟩
def Nu {b:Nat} (h:jy w B b m) (k:Int×Int):
  Calls prog 193 #[γ B,θ #[ι k.1,ι k.2]] w λe w'=>e= .returned (ι (vT m k).2)/\jy w' B b (vT m k).1/\jt (λx=>x=b) w w':=by
 have I:=h.more (ql.alloc w (.cells #[ι k.1,ι k.2] 169));have af:=β0 I.blk;have q:=I.look k;have H:=κ I;clear I h;have ab:k.1<0∨(¬k.1<0/\6<=k.1)∨(¬k.1<0/\ ¬6<=k.1/\k.2<0)∨(¬k.1<0/\ ¬6<=k.1/\ ¬k.2<0):=by omega
 rcases ab with g1 | ⟨g1,g2⟩ | ⟨g1,g2,g3⟩ | ⟨g1,g2,g3⟩
 ·have d:vT m k=(m,1):=by unfold vT;rw[ώ τ]
  have G:=κ d;clear d q
  go_enter func193,ntmps193
  go_wp2;go_ret;rw[G.o];exact⟨rfl,H.o,jt.of_more W4⟩
 ·have d:vT m k=(m,1):=by unfold vT;rw[ώ τ]
  have G:=κ d;clear d q
  go_enter func193,ntmps193
  go_wp2;go_ret;rw[G.o];exact⟨rfl,H.o,jt.of_more W4⟩
 ·have d:vT m k=(m,1):=by unfold vT;rw[ώ τ]
  have G:=κ d;clear d q
  go_enter func193,ntmps193
  go_wp2;go_ret;rw[G.o];exact⟨rfl,H.o,jt.of_more W4⟩
 ·cases hs:(qh m k).isSome with
  | true=>
   have d:vT m k=(m,6):=by unfold vT;rw[ϐ τ,hs];rfl
   have G:=κ d;simp only[hs] at q;clear d hs
   go_enter func193,ntmps193
   go_wp2;refine wp_region_quiet_lit ξ ξ ?_
   repeat (go_big_quiet_step (fail))
   refine wpQuiet_nil ?_;intro _ J;obtain⟨nq,rfl⟩:=J;go_wp2;go_ret;rw[G.o];exact⟨rfl,H.o.more (ql.drewN _ _),jt.of_more (W4.dr _)⟩
  | false=>
   have d:vT m k=(qx m k 0,0):=by unfold vT;rw[ϐ τ,hs];rfl
   have G:=κ d;simp only[hs] at q;clear d hs
   go_enter func193,ntmps193
   go_wp2;refine wp_region_quiet_lit ξ ξ ?_
   repeat (go_big_quiet_step (fail))
   refine wpQuiet_nil ?_;intro _ J;obtain⟨nq,rfl⟩:=J
   go_wp2_with fail
   have ac:=λ(x:qt (w.alloc (.cells #[ι k.1,ι k.2] 169)))=>β0 (qq x.h H.o.blk)
   have ad: ∀x:qt (w.alloc (.cells #[ι k.1,ι k.2] 169)),x.w'.cell? ⟨w.heap.size,0,ϋ⟩=ϊ (ι k.1):=λx=>x.new 0 rfl
   have ae: ∀x:qt (w.alloc (.cells #[ι k.1,ι k.2] 169)),x.w'.cell? ⟨w.heap.size,1,ϋ⟩=ϊ (ι k.2):=λx=>x.new 1 rfl
   refine Qn (w.alloc (.cells #[ι k.1,ι k.2] 169)) 5 6 [5] ?_
   refine Qq5 ?_
   obtain⟨w9,aa,U,O,_⟩:=(H.o.map.more (ql.drewN _ (nq+1))).update Ys underlying236 k 0;unfold ke2 at aa;have Y:=κ U;have M:=κ O;clear U O
   (refine Qe ?_;intro K N)
   refine N _ _ ?_;clear N K;refine qA ?_;go_wp2;go_ret;rw[G.o];exact⟨rfl,(H.o.more (ql.drewN _ (nq+1))).put M.o ζ Y.o,(jt.of_more (W4.dr _)).trans M.o⟩
def yP (f:Int) (w:World) (h:1<=f/\f<=8):Calls prog 166 #[ι f] w λe w'=>e= .returned (μ ό)/\w=w':=by
 obtain⟨d,G⟩:=h
 go_enter func166,ntmps166
 go_wp2;go_ret;exact⟨rfl,rfl⟩
def Jh (f:Int) (w:World) (h: ¬(1<=f/\f<=8)):Calls prog 166 #[ι f] w λe w'=>e= .returned (μ ύ)/\w=w':=by
 have d:f<1∨(¬f<1/\8<f):=by omega
 clear h;rcases d with h1 | ⟨h1,h2⟩
 ·go_enter func166,ntmps166
  go_wp2;go_ret;exact⟨rfl,rfl⟩
 ·go_enter func166,ntmps166
  go_wp2;go_ret;exact⟨qZ (by simp;omega),rfl⟩
def F0 {b:Nat} (h:jy w B b m) (k:Int×Int) (f:Int):
  Calls prog 177 #[γ B,θ #[ι k.1,ι k.2],ι f] w λe w'=>e= .returned (ι (zi m k f).2)/\jy w' B b (zi m k f).1/\jt (λx=>x=b) w w':=by
 have M:=h.more (ql.alloc w (.cells #[ι k.1,ι k.2] 169));have af:=β0 M.blk;have q:=M.look k;have I:=κ M;clear M h;by_cases hf:1<=f/\f<=8
 ·have G:=κ hf;clear hf;cases hs:(qh m k).isSome with
  | false=>
   have d:zi m k f=(m,5):=by unfold zi;rw[ϐ G.o,hs];rfl
   have H:=κ d;simp only[hs] at q;clear d hs
   go_enter func177,ntmps177
   go_wp2_with (go_at_call 166;((with_reducible refine(yP f _ G.o).mono ?_);rintro e w2 ⟨rfl,rfl⟩))
   refine wp_region_quiet_lit ξ ξ ?_
   repeat (go_big_quiet_step (fail))
   refine wpQuiet_nil ?_;intro _ J;obtain⟨nq,rfl⟩:=J;go_wp2;go_ret;rw[H.o];exact⟨rfl,I.o.more (ql.drewN _ _),jt.of_more (W4.dr _)⟩
  | true=>
   by_cases hv:(qh m k).getD 0=0
   ·have d:zi m k f=(qx m k f,0):=by unfold zi;rw[ϐ G.o,ϐ hs,ϐ hv]
    have H:=κ d;simp only[hs,hv] at q;clear d hs hv
    go_enter func177,ntmps177
    go_wp2_with (go_at_call 166;((with_reducible refine(yP f _ G.o).mono ?_);rintro e w2 ⟨rfl,rfl⟩))
    refine wp_region_quiet_lit ξ ξ ?_
    repeat (go_big_quiet_step (fail))
    refine wpQuiet_nil ?_;intro _ J;obtain⟨nq,rfl⟩:=J
    go_wp2_with fail
    have ac:=λ(x:qt (w.alloc (.cells #[ι k.1,ι k.2] 169)))=>β0 (qq x.h I.o.blk)
    have ad: ∀x:qt (w.alloc (.cells #[ι k.1,ι k.2] 169)),x.w'.cell? ⟨w.heap.size,0,ϋ⟩=ϊ (ι k.1):=λx=>x.new 0 rfl
    have ae: ∀x:qt (w.alloc (.cells #[ι k.1,ι k.2] 169)),x.w'.cell? ⟨w.heap.size,1,ϋ⟩=ϊ (ι k.2):=λx=>x.new 1 rfl
    refine Qn (w.alloc (.cells #[ι k.1,ι k.2] 169)) 6 7 [6] ?_
    refine Qq6 ?_
    obtain⟨w9,ab,Y,U,_⟩:=(I.o.map.more (ql.drewN _ (nq+1))).update Ys underlying236 k f;unfold ke2 at ab;have aa:=κ Y;have N:=κ U;clear Y U
    (refine Qe ?_;intro K O)
    refine O _ _ ?_;clear O K;refine qA ?_;go_wp2;go_ret;rw[H.o];exact⟨rfl,(I.o.more (ql.drewN _ (nq+1))).put N.o (by have:=G.o;omega) aa.o,(jt.of_more (W4.dr _)).trans N.o⟩
   ·have d:zi m k f=(m,6):=by unfold zi;rw[ϐ G.o,ϐ hs,ώ hv]
    have H:=κ d;simp only[hs] at q;generalize (qh m k).getD 0=fv at *;have ag:(fv != 0)=ό:=by simpa using hv
    clear d hs hv
    go_enter func177,ntmps177
    go_wp2_with (go_at_call 166;((with_reducible refine(yP f _ G.o).mono ?_);rintro e w2 ⟨rfl,rfl⟩))
    refine wp_region_quiet_lit ξ ξ ?_
    repeat (go_big_quiet_step (fail))
    refine wpQuiet_nil ?_;intro _ J;obtain⟨nq,rfl⟩:=J;go_wp2;go_ret;rw[H.o];exact⟨rfl,I.o.more (ql.drewN _ _),jt.of_more (W4.dr _)⟩
 ·have d:zi m k f=(m,1):=by unfold zi;rw[ώ hf]
  have H:=κ d;have G:=κ hf;clear d q hf
  go_enter func177,ntmps177
  go_wp2_with (go_at_call 166;((with_reducible refine(Jh f _ G.o).mono ?_);rintro e w2 ⟨rfl,rfl⟩))
  go_ret;rw[H.o];exact⟨rfl,I.o,jt.of_more W4⟩
abbrev Og:=Int×Int
abbrev Sb:=Int×Bool×Int
structure TS where
 o:List (Int×Og)
 s:List (Og×Int)
 u:List (Int×Sb)
variable {t:TS}
def kO (k:Og):Value:= .agg #[.int .i64 k.1,.int .i64 k.2]
def vS (x:Sb):Value:= .agg #[.int .u32 x.1,.bool x.2.1,.int .i64 x.2.2]
def PK (a b:Og) (w:World):(Op.equal 58 (kO a) (kO b)).run prog w= .ok (decide (a=b)) w:=by
 have J:prog.stoodInHeld 58=ύ:=by kernel_rfl
 obtain⟨d,G⟩:=a;obtain⟨H,I⟩:=b;unfold Op.equal kO;rw[show Op.maxDepth=9999+1 from rfl,run_equalIn_agg w 9999 58 _ _ ξ J];simp[go_sem];by_cases e1:d=H<;>by_cases e2:G=I<;>simp[e1,e2]
def Ga (G:P.underlying d=ϊ (.int q)) (n:Nat) (H:0<n) (b:Bool) (x:Int) (w:World):(Instr.checkKey b n d (.int q x)).run P w= .ok () w:=by
 obtain⟨m,rfl⟩: ∃m,n=m+1:=⟨n-1,τ⟩;unfold Instr.checkKey;rw[Sem.run_bind,run_underlying G];rfl
def Yr:yz prog 58 kO:=
 yz.of_ask underlying58 (λa b=>by simp[Instr.sameNow]) PK (λb k w=>by
  rw[show (10000:Nat)=9999+1 from rfl];unfold Instr.checkKey kO
  simp[run_underlying underlying58,go_sem,Ga underlying3 9999 ζ]) (λk=>by simp[Instr.sameBits,kO])
def Aa:yz prog 38 (Value.int .u32):=Ab underlying38
def kE:yz prog 3 (Value.int .i64):=Ab underlying3
structure jq (w:World) (T a b c:Nat) (t:TS):Prop where
 blk:w.heap[T]? =ϊ (.cells #[.map (ϊ a),.map (ϊ b),.map (ϊ c)] 242 (0,0))
 mo:jk w a (Value.int .u32) kO t.o
 ms:jk w b kO (Value.int .u32) t.s
 mu:jk w c (Value.int .i64) vS t.u
 ab:a≠b
 ac:a≠c
 bc:b≠c
def KU {K V:Type} {b:Nat} {t:TypeId} {ke:K->Value} {H:V->Value} {L:List (K×V)} (h:w.heap[B]? =ϊ (.cells cs t (0,0))) (G:jk w b ke H L):B≠b:=by
 intro e;obtain⟨J,I,d,_⟩:=G.ex;rw[e,d] at h;cases h
def jq.more {b:Nat} (h:jq w T a b c t) (m:ql w w'):jq w' T a b c t:=⟨qq m h.blk,h.mo.more m,h.ms.more m,h.mu.more m,h.ab,h.ac,h.bc⟩
def jq.away {b:Nat} (h:jq w T a b c t) (m:jt S w w') (d: ¬S T) (G: ¬S a) (H: ¬S b) (I: ¬S c):jq w' T a b c t:=⟨m.blk h.blk d,h.mo.away m G,h.ms.away m H,h.mu.away m I,h.ab,h.ac,h.bc⟩
def jq.putO {b:Nat} (h:jq w T a b c t) (m:jt (λz=>z=a) w w') {o:List (Int×Og)} (d:jk w' a (Value.int .u32) kO o):jq w' T a b c {t with o:=o}:=
 ⟨m.blk h.blk (KU h.blk h.mo),d,h.ms.away m (λe=>h.ab e.symm),h.mu.away m (λe=>h.ac e.symm),h.ab,h.ac,h.bc⟩
def jq.putS {b:Nat} (h:jq w T a b c t) (m:jt (λz=>z=b) w w') {s:List (Og×Int)} (d:jk w' b kO (Value.int .u32) s):jq w' T a b c {t with s:=s}:=
 ⟨m.blk h.blk (KU h.blk h.ms),h.mo.away m h.ab,d,h.mu.away m (λe=>h.bc e.symm),h.ab,h.ac,h.bc⟩
def jq.putU {b:Nat} (h:jq w T a b c t) (m:jt (λz=>z=c) w w') {u:List (Int×Sb)} (d:jk w' c (Value.int .i64) vS u):jq w' T a b c {t with u:=u}:=
 ⟨m.blk h.blk (KU h.blk h.mu),h.mo.away m h.ac,h.ms.away m h.bc,d,h.ab,h.ac,h.bc⟩
def Aq (w:World):(zeroValue 58).run prog w= .ok (θ #[ι 0,ι 0]) w:=by kernel_rfl
def Ap (w:World):(zeroValue 38).run prog w= .ok (ω 0) w:=by kernel_rfl
def Vi (w:World):(zeroValue 298).run prog w= .ok (θ #[ω 0,ύ,ι 0]) w:=by kernel_rfl
def jq.lookO {b:Nat} (h:jq w T a b c t) (s:Int):
  (Instr.lookup 239 (.map (ϊ a)) (ω s) ό).run prog w= .ok (.tuple #[θ #[ι ((qh t.o s).getD (0,0)).1,ι ((qh t.o s).getD (0,0)).2],μ (qh t.o s).isSome]) w:=by
 rw[h.mo.look Aa underlying239 (Aq w) s ό];cases qh t.o s<;>rfl
def jq.lookS {b:Nat} (h:jq w T a b c t) (k:Og):
  (Instr.lookup 47 (.map (ϊ b)) (θ #[ι k.1,ι k.2]) ό).run prog w= .ok (.tuple #[ω ((qh t.s k).getD 0),μ (qh t.s k).isSome]) w:=by
 have:=h.ms.look Yr underlying47 (Ap w) k ό;unfold kO at this;rw[this];cases qh t.s k<;>rfl
def sb0:Sb:=(0,ύ,0)
def jq.lookU {b:Nat} (h:jq w T a b c t) (x:Int):
  (Instr.lookup 240 (.map (ϊ c)) (ι x) ό).run prog w= .ok (.tuple #[θ #[ω ((qh t.u x).getD sb0).1,μ ((qh t.u x).getD sb0).2.1,ι ((qh t.u x).getD sb0).2.2],μ (qh t.u x).isSome]) w:=by
 rw[h.mu.look kE underlying240 (Vi w) x ό];cases qh t.u x<;>rfl
def jq.lookU1 {b:Nat} (h:jq w T a b c t) (x:Int):
  (Instr.lookup 240 (.map (ϊ c)) (ι x) ύ).run prog w= .ok (θ #[ω ((qh t.u x).getD sb0).1,μ ((qh t.u x).getD sb0).2.1,ι ((qh t.u x).getD sb0).2.2]) w:=by
 rw[h.mu.look kE underlying240 (Vi w) x ύ];cases qh t.u x<;>rfl
def Mv (w:World):Calls prog 44 #[] w λe w'=> ∃T a b c,e= .returned (γ T)/\w.heap.size<=T/\w.heap.size<=a/\w.heap.size<=b/\w.heap.size<=c/\jq w' T a b c ⟨[],[],[]⟩/\ql w w':=by
 go_enter func44,ntmps44
 have d:= @run_makeMap prog;go_wp2;go_ret;refine⟨w.heap.size+3,w.heap.size,w.heap.size+1,w.heap.size+2,η,τ,τ,τ,τ,⟨qC η,(jk.made w _ _).more ((W4.al _).al _), ?_, ?_,τ,τ,τ⟩,((W4.al _).al _).al _⟩
 ·have:=(jk.made (w.alloc (.map #[] 0)) kO (Value.int .u32)).more ((ql.alloc _ (.map #[] 0)).al (.cells #[.map (ϊ w.heap.size),.map (ϊ (w.heap.size+1)),.map (ϊ (w.heap.size+2))] 242))
  simpa using this
 ·have:=(jk.made ((w.alloc (.map #[] 0)).alloc (.map #[] 0)) (Value.int .i64) vS).more (ql.alloc _ (.cells #[.map (ϊ w.heap.size),.map (ϊ (w.heap.size+1)),.map (ϊ (w.heap.size+2))] 242))
  simpa using this
def Le {b:Nat} (h:jq w T a b c t) (s:Int):
  Calls prog 131 #[γ T,ω s] w λe w'=>e= .returned (.tuple #[θ #[ι ((qh t.o s).getD (0,0)).1,ι ((qh t.o s).getD (0,0)).2],μ (qh t.o s).isSome])/\ql w w':=by
 have d:=h.more (ql.alloc w (.cells #[ι 0,ι 0] 58));have G:=β0 d.blk;have q:=d.lookO s;clear d h;generalize (qh t.o s).getD (0,0)=x at *
 go_enter func131,ntmps131
 go_wp2
 (refine bodyPost_ret (v:= .tuple #[θ #[ι x.1,ι x.2],μ (qh t.o s).isSome]) ?rr1 rfl ?_;(case rr1=>(simp[results,results131,go_sem])))
 exact⟨rfl,W4.al _⟩
def CC {b:Nat} (h:jq w T a b c t) (k:Og):
  Calls prog 143 #[γ T,θ #[ι k.1,ι k.2]] w λe w'=>e= .returned (.tuple #[ω ((qh t.s k).getD 0),μ (qh t.s k).isSome])/\ql w w':=by
 have d:=h.more (ql.alloc w (.cells #[ι k.1,ι k.2] 58));have H:=β1 d.blk;have q:=λn=>(d.more (ql.drewN _ n)).lookS k
 clear d h
 go_enter func143,ntmps143
 go_wp2;refine wp_region_quiet_lit ξ ξ ?_
 repeat (go_big_quiet_step (fail))
 refine wpQuiet_nil ?_;intro _ G;obtain⟨nq,rfl⟩:=G;go_wp2
 go_ret2
 exact⟨rfl,W4.dr _⟩
def LH {b:Nat} (h:jq w T a b c t) (x:Int):
  Calls prog 90 #[γ T,ι x] w λe w'=>e= .returned (.tuple #[ι ((qh t.u x).getD sb0).2.2,μ ((qh t.u x).getD sb0).2.1])/\ql w w':=by
 have G:=β2 h.blk;have q:=h.lookU1 x;clear h;generalize (qh t.u x).getD sb0=y at *
 go_enter func90,ntmps90
 go_wp2;refine wp_region_quiet_lit ξ ξ ?_
 repeat (go_big_quiet_step (fail))
 refine wpQuiet_nil ?_;intro _ d;obtain⟨nq,rfl⟩:=d;go_wp2
 go_ret2
 exact⟨rfl,W4.dr _⟩
def yC {b:Nat} (h:jq w T a b c t) (p:Int):
  Calls prog 165 #[γ T,ι p] w λe w'=>e= .returned (μ (qh t.s (p,0)).isSome)/\w=w':=by
 have d:=β1 h.blk;have q:=h.lookS (p,0);simp only at q;clear h
 go_enter func165,ntmps165
 go_wp2;go_ret;exact⟨rfl,rfl⟩
def vw (p:Int) (w:World) (h:0<=p/\p<3):Calls prog 163 #[ι p] w λe w'=>e= .returned (μ ό)/\w=w':=by
 obtain⟨d,G⟩:=h
 go_enter func163,ntmps163
 go_wp2;go_ret;exact⟨qZ (by simp<;>omega),rfl⟩
def Z8 (p:Int) (w:World) (h: ¬(0<=p/\p<3)):Calls prog 163 #[ι p] w λe w'=>e= .returned (μ ύ)/\w=w':=by
 have d:p<0∨(0<=p/\3<=p):=by omega
 clear h;rcases d with h1 | ⟨h1,h2⟩
 ·go_enter func163,ntmps163
  go_wp2;go_ret;exact⟨qZ η,rfl⟩
 ·go_enter func163,ntmps163
  go_wp2;go_ret;exact⟨qZ (by simp<;>omega),rfl⟩
def xe (p:Int) (w:World) (h:0<=p/\p<6):Calls prog 145 #[ι p] w λe w'=>e= .returned (μ ό)/\w=w':=by
 obtain⟨d,G⟩:=h
 go_enter func145,ntmps145
 go_wp2;go_ret;exact⟨qZ (by simp<;>omega),rfl⟩
def wl (p:Int) (w:World) (h: ¬(0<=p/\p<6)):Calls prog 145 #[ι p] w λe w'=>e= .returned (μ ύ)/\w=w':=by
 have d:p<0∨(0<=p/\6<=p):=by omega
 clear h;rcases d with h1 | ⟨h1,h2⟩
 ·go_enter func145,ntmps145
  go_wp2;go_ret;exact⟨qZ η,rfl⟩
 ·go_enter func145,ntmps145
  go_wp2;go_ret;exact⟨qZ (by simp<;>omega),rfl⟩
def yI (t:TS) (x own:Int):TS×Int:=if 0<=x/\x<6 then (if (qh t.u x).isSome then (t,6) else ({t with u:=qx t.u x (own,ύ,0)},0)) else (t,1)
def zW (t:TS) (x:Int):TS×Int:=if 0<=x/\x<6 then (if (qh t.u x).isSome then ({t with u:=yK t.u x},0) else (t,5)) else (t,1)
def vL (t:TS) (x p:Int):TS×Int:=if (0<=x/\x<6)/\(0<=p/\p<3) then (if (qh t.u x).isSome/\(qh t.s (p,0)).isSome then (if ((qh t.u x).getD sb0).2.1 then (t,6) else ({t with u:=qx t.u x (((qh t.u x).getD sb0).1,ό,p)},0)) else (t,5)) else (t,1)
def zM (t:TS) (x:Int):TS×Int:=if 0<=x/\x<6 then (if (qh t.u x).isSome/\((qh t.u x).getD sb0).2.1 then ({t with u:=qx t.u x (((qh t.u x).getD sb0).1,ύ,0)},0) else (t,5)) else (t,1)
def jB {f:FuncId} {args:Array Value} {b:Nat} {r:TS×Int} {t':TS} {v:Int} (hr:r=(t',v)) (h:Calls P f args w λe w'=>e= .returned (ι v)/\jq w' T a b c t'/\jt (λz=>z=c) w w'):
  Calls P f args w λe w'=>e= .returned (ι r.2)/\jq w' T a b c r.1/\jt (λz=>z=c) w w':=by
 subst hr;exact h
def Ld {b:Nat} (h:jq w T a b c t) (x own:Int):
  Calls prog 87 #[γ T,ι x,ω own] w λe w'=>e= .returned (ι (yI t x own).2)/\jq w' T a b c (yI t x own).1/\jt (λz=>z=c) w w':=by
 have c2:=β2 h.blk;have q:=h.lookU x;have HT:=κ h;by_cases hx:0<=x/\x<6
 ·have HX:=κ hx;obtain⟨y,hy⟩:=ν ((qh t.u x).getD sb0);rw[hy] at q;clear hy;cases hs:(qh t.u x).isSome with
  | true=>
   refine jB (t':=t) (v:=6) (by unfold yI;rw[ϐ hx,ϐ hs]) ?_;rw[hs] at q;clear hx hs h
   go_enter func87,ntmps87
   go_wp2_with (go_at_call 145;(go_call xe x _ HX.o as e w2 ⟨rfl,rfl⟩))
   go_ret;exact⟨rfl,HT.o.more W4,jt.of_more W4⟩
  | false=>
   refine jB (t':={t with u:=qx t.u x (own,ύ,0)}) (v:=0) (by unfold yI;rw[ϐ hx,hs];rfl) ?_;rw[hs] at q;clear hx hs h;have c3:=β2 (qs HT.o.blk (.cells #[ω y.1,y.2.1,ι y.2.2] 298));obtain⟨w9,hr,hm,ha,_⟩:=(HT.o.mu.more (ql.alloc w (.cells #[ω y.1,y.2.1,ι y.2.2] 298))).update kE underlying240 x (own,ύ,0);unfold vS at hr;simp only at hr;have HM:=κ hm;have HA:=κ ha;clear hm ha
   go_enter func87,ntmps87
   go_wp2_with (go_at_call 145;(go_call xe x _ HX.o as e w2 ⟨rfl,rfl⟩))
   go_ret;exact⟨rfl,(HT.o.more (ql.alloc w _)).putU HA.o HM.o,(jt.of_more W4).trans HA.o⟩
 ·have HX:=κ hx;refine jB (t':=t) (v:=1) (by unfold yI;rw[ώ hx]) ?_;clear hx q
  go_enter func87,ntmps87
  go_wp2_with (go_at_call 145;(go_call wl x _ HX.o as e w2 ⟨rfl,rfl⟩))
  go_ret;exact⟨rfl,HT.o,jt.refl _ _⟩
def FC {b:Nat} (h:jq w T a b c t) (x:Int):
  Calls prog 106 #[γ T,ι x] w λe w'=>e= .returned (ι (zW t x).2)/\jq w' T a b c (zW t x).1/\jt (λz=>z=c) w w':=by
 have c2:=β2 h.blk;have q:=h.lookU x;have HT:=κ h;by_cases hx:0<=x/\x<6
 ·have HX:=κ hx;obtain⟨y,hy⟩:=ν ((qh t.u x).getD sb0);rw[hy] at q;clear hy;cases hs:(qh t.u x).isSome with
  | false=>
   refine jB (t':=t) (v:=5) (by unfold zW;rw[ϐ hx,hs];rfl) ?_;rw[hs] at q;clear hx hs h
   go_enter func106,ntmps106
   go_wp2_with (go_at_call 145;(go_call xe x _ HX.o as e w2 ⟨rfl,rfl⟩))
   go_ret;exact⟨rfl,HT.o.more W4,jt.of_more W4⟩
  | true=>
   refine jB (t':={t with u:=yK t.u x}) (v:=0) (by unfold zW;rw[ϐ hx,ϐ hs]) ?_;rw[hs] at q;clear hx hs h;have c3:=β2 (qs HT.o.blk (.cells #[ω y.1,y.2.1,ι y.2.2] 298));obtain⟨w9,hr,hm,ha,_⟩:=(HT.o.mu.more (ql.alloc w (.cells #[ω y.1,y.2.1,ι y.2.2] 298))).drop kE underlying240 x 0;have hr: ∀ty,(Builtin.delete_ #[240,3] ty #[.map (ϊ c),ι x]).run prog (w.alloc (.cells #[ω y.1,y.2.1,ι y.2.2] 298))= .ok (.tuple #[]) w9:=λ_=>hr
   have HM:=κ hm;have HA:=κ ha;clear hm ha
   go_enter func106,ntmps106
   go_wp2_with (go_at_call 145;(go_call xe x _ HX.o as e w2 ⟨rfl,rfl⟩))
   go_ret;exact⟨rfl,(HT.o.more (ql.alloc w _)).putU HA.o HM.o,(jt.of_more W4).trans HA.o⟩
 ·have HX:=κ hx;refine jB (t':=t) (v:=1) (by unfold zW;rw[ώ hx]) ?_;clear hx q
  go_enter func106,ntmps106
  go_wp2_with (go_at_call 145;(go_call wl x _ HX.o as e w2 ⟨rfl,rfl⟩))
  go_ret;exact⟨rfl,HT.o,jt.refl _ _⟩
def Jf {b:Nat} (h:jq w T a b c t) (x p:Int):
  Calls prog 105 #[γ T,ι x,ι p] w λe w'=>e= .returned (ι (vL t x p).2)/\jq w' T a b c (vL t x p).1/\jt (λz=>z=c) w w':=by
 have c2:=β2 h.blk;have q:=h.lookU x;have HT:=κ h;by_cases hx:0<=x/\x<6
 ·have HX:=κ hx;by_cases hp:0<=p/\p<3
  ·have HP:=κ hp;obtain⟨y,hy⟩:=ν ((qh t.u x).getD sb0);cases hs:(qh t.u x).isSome with
   | false=>
    refine jB (t':=t) (v:=5) (by unfold vL;rw[ϐ ⟨hx,hp⟩,hs];rfl) ?_;rw[hs,hy] at q;clear hx hs h hp hy
    go_enter func105,ntmps105
    go_wp2_with first | (go_at_call 145;(go_call xe x _ HX.o as e w2 ⟨rfl,rfl⟩)) | (go_at_call 163;(go_call vw p _ HP.o as e w2 ⟨rfl,rfl⟩))
    go_ret;exact⟨rfl,HT.o.more W4,jt.of_more W4⟩
   | true=>
    cases hps:(qh t.s (p,0)).isSome with
    | false=>
     refine jB (t':=t) (v:=5) (by unfold vL;rw[ϐ ⟨hx,hp⟩,hps];simp) ?_;have HPS:=κ hps;rw[hs,hy] at q;clear hx hs h hp hy hps
     go_enter func105,ntmps105
     go_wp2_with first | (go_at_call 145;(go_call xe x _ HX.o as e w2 ⟨rfl,rfl⟩)) | (go_at_call 163;(go_call vw p _ HP.o as e w2 ⟨rfl,rfl⟩)) | (go_at_call 165;(go_call yC (HT.o.more (ql.alloc w (.cells #[ω y.1,y.2.1,ι y.2.2] 298))) p as e w2 ⟨rfl,rfl⟩;rw[HPS.o]))
     go_ret;exact⟨rfl,HT.o.more W4,jt.of_more W4⟩
    | true=>
     have HPS:=κ hps;cases hb:y.2.1 with
     | true=>
      refine jB (t':=t) (v:=6) (by unfold vL;rw[ϐ ⟨hx,hp⟩,ϐ ⟨hs,hps⟩,hy,hb];rfl) ?_;rw[hs,hy,hb] at q;clear hx hs h hp hy hps hb
      go_enter func105,ntmps105
      go_wp2_with first | (go_at_call 145;(go_call xe x _ HX.o as e w2 ⟨rfl,rfl⟩)) | (go_at_call 163;(go_call vw p _ HP.o as e w2 ⟨rfl,rfl⟩)) | (go_at_call 165;(go_call yC (HT.o.more (ql.alloc w (.cells #[ω y.1,ό,ι y.2.2] 298))) p as e w2 ⟨rfl,rfl⟩;rw[HPS.o]))
      go_ret;exact⟨rfl,HT.o.more W4,jt.of_more W4⟩
     | false=>
      refine jB (t':={t with u:=qx t.u x (y.1,ό,p)}) (v:=0) (by unfold vL;rw[ϐ ⟨hx,hp⟩,ϐ ⟨hs,hps⟩,hy,hb];rfl) ?_;rw[hs,hy] at q;rw[hb] at q;clear hx hs h hp hy hps hb;have L0: ∀z:qt (w.alloc (.cells #[ω y.1,ύ,ι y.2.2] 298)),z.w'.cell? ⟨T,2,ϋ⟩=ϊ (.map (ϊ c)):=λz=>qm (qq z.h (qs HT.o.blk _)) 2 rfl
      have L1: ∀z:qt (w.alloc (.cells #[ω y.1,ύ,ι y.2.2] 298)),z.w'.cell? ⟨w.heap.size,0,ϋ⟩=ϊ (ω y.1):=λz=>z.new 0 rfl
      obtain⟨w9,hr,hm,ha,_⟩:=((HT.o.mu.more (ql.alloc w (.cells #[ω y.1,ύ,ι y.2.2] 298))).more (ql.drewN _ 1)).update kE underlying240 x (y.1,ό,p);unfold vS at hr;simp only at hr;have HM:=κ hm;have HA:=κ ha;clear hm ha
      go_enter func105,ntmps105
      go_wp2_with first | (go_at_call 145;(go_call xe x _ HX.o as e w2 ⟨rfl,rfl⟩)) | (go_at_call 163;(go_call vw p _ HP.o as e w2 ⟨rfl,rfl⟩)) | (go_at_call 165;(go_call yC (HT.o.more (ql.alloc w (.cells #[ω y.1,ύ,ι y.2.2] 298))) p as e w2 ⟨rfl,rfl⟩;rw[HPS.o]))
      refine Qn (w.alloc (.cells #[ω y.1,ύ,ι y.2.2] 298)) 9 10 [9] ?_
      refine Qq9 ?_
      (refine Qe ?_;intro K hK)
      refine hK _ _ ?_;clear hK K;refine qA ?_;go_wp2;go_ret;exact⟨rfl,((HT.o.more (ql.alloc w _)).more (ql.drewN _ 1)).putU HA.o HM.o,(jt.of_more (W4.dr 1)).trans HA.o⟩
  ·have HP:=κ hp;refine jB (t':=t) (v:=1) (by unfold vL;rw[ώ (λh=>hp h.2)]) ?_;clear hx q hp
   go_enter func105,ntmps105
   go_wp2_with first | (go_at_call 145;(go_call xe x _ HX.o as e w2 ⟨rfl,rfl⟩)) | (go_at_call 163;(go_call Z8 p _ HP.o as e w2 ⟨rfl,rfl⟩))
   go_ret;exact⟨rfl,HT.o,jt.refl _ _⟩
 ·have HX:=κ hx;refine jB (t':=t) (v:=1) (by unfold vL;rw[ώ (λh=>hx h.1)]) ?_;clear hx q
  go_enter func105,ntmps105
  go_wp2_with (go_at_call 145;(go_call wl x _ HX.o as e w2 ⟨rfl,rfl⟩))
  go_ret;exact⟨rfl,HT.o,jt.refl _ _⟩
def Zr {b:Nat} (h:jq w T a b c t) (x:Int):
  Calls prog 123 #[γ T,ι x] w λe w'=>e= .returned (ι (zM t x).2)/\jq w' T a b c (zM t x).1/\jt (λz=>z=c) w w':=by
 have c2:=β2 h.blk;have q:=h.lookU x;have HT:=κ h;by_cases hx:0<=x/\x<6
 ·have HX:=κ hx;obtain⟨y,hy⟩:=ν ((qh t.u x).getD sb0);cases hs:(qh t.u x).isSome with
  | false=>
   refine jB (t':=t) (v:=5) (by unfold zM;rw[ϐ hx,hs];rfl) ?_;rw[hs,hy] at q;clear hx hs h hy
   go_enter func123,ntmps123
   go_wp2_with (go_at_call 145;(go_call xe x _ HX.o as e w2 ⟨rfl,rfl⟩))
   go_ret;exact⟨rfl,HT.o.more W4,jt.of_more W4⟩
  | true=>
   cases hb:y.2.1 with
   | false=>
    refine jB (t':=t) (v:=5) (by unfold zM;rw[ϐ hx,hy,hb];simp) ?_;rw[hs,hy,hb] at q;clear hx hs h hy hb
    go_enter func123,ntmps123
    go_wp2_with (go_at_call 145;(go_call xe x _ HX.o as e w2 ⟨rfl,rfl⟩))
    go_ret;exact⟨rfl,HT.o.more W4,jt.of_more W4⟩
   | true=>
    refine jB (t':={t with u:=qx t.u x (y.1,ύ,0)}) (v:=0) (by unfold zM;rw[ϐ hx,hy,hb,hs];rfl) ?_;rw[hs,hy,hb] at q;clear hx hs h hy hb;have L0: ∀z:qt (w.alloc (.cells #[ω y.1,ό,ι y.2.2] 298)),z.w'.cell? ⟨T,2,ϋ⟩=ϊ (.map (ϊ c)):=λz=>qm (qq z.h (qs HT.o.blk _)) 2 rfl
    have L1: ∀z:qt (w.alloc (.cells #[ω y.1,ό,ι y.2.2] 298)),z.w'.cell? ⟨w.heap.size,0,ϋ⟩=ϊ (ω y.1):=λz=>z.new 0 rfl
    obtain⟨w9,hr,hm,ha,_⟩:=((HT.o.mu.more (ql.alloc w (.cells #[ω y.1,ό,ι y.2.2] 298))).more (ql.drewN _ 1)).update kE underlying240 x (y.1,ύ,0);unfold vS at hr;simp only at hr;have HM:=κ hm;have HA:=κ ha;clear hm ha
    go_enter func123,ntmps123
    go_wp2_with (go_at_call 145;(go_call xe x _ HX.o as e w2 ⟨rfl,rfl⟩))
    refine Qn (w.alloc (.cells #[ω y.1,ό,ι y.2.2] 298)) 8 9 [8] ?_
    refine Qq8 ?_
    (refine Qe ?_;intro K hK)
    refine hK _ _ ?_;clear hK K;refine qA ?_;go_wp2;go_ret;exact⟨rfl,((HT.o.more (ql.alloc w _)).more (ql.drewN _ 1)).putU HA.o HM.o,(jt.of_more (W4.dr 1)).trans HA.o⟩
 ·have HX:=κ hx;refine jB (t':=t) (v:=1) (by unfold zM;rw[ώ hx]) ?_;clear hx q
  go_enter func123,ntmps123
  go_wp2_with (go_at_call 145;(go_call wl x _ HX.o as e w2 ⟨rfl,rfl⟩))
  go_ret;exact⟨rfl,HT.o,jt.refl _ _⟩
abbrev qQ:=Int×Int×List Int×Unit
variable {acc:List qQ}
def yH:qL qQ:=zf 1 (yW .u8) (zf 1 (yW .u8) (zf 1 (RSl 1 (yW .u8)) Gp))
def xu:qQ:=(0,0,[],())
structure xk (c:qQ):Prop where
 n:0<=c.1/\c.1<=255
 t:0<=c.2.1/\c.2.1<=255
 byt:Byt c.2.2.1
def DH (h:0<=n/\n<=255):(Lit.int .u8 n).wf=ό:=by
 simp[Lit.wf,IntKind.min,IntKind.max,IntKind.signed,IntKind.bits];omega
def IW (h:Byt l): ∀n∈l,(Lit.int .u8 n).wf=ό:=by
 intro n d;obtain⟨i,hi,rfl⟩:=A4.1 d;have:=h i;rw[ϑ,ϖ hi,ϥ] at this;exact DH this
def Co {cs:List Value} {c:qQ} (h:yH w cs c) (M:cs.length=3): ∃vb,cs=[υ c.1,υ c.2.1,vb]/\SlI .u8 w vb c.2.2.1/\xk c:=by
 match cs,M with
 | [k0,k1,k2],_=>
  obtain⟨⟨d,I⟩,⟨G,J⟩,⟨vb,H,s2⟩,_⟩:=h;simp at d G H;subst d G H;exact⟨k2,rfl,s2.ints.1,⟨bounds_u8 I,bounds_u8 J,Byt.of_wf s2.ints.2⟩⟩
def VU {c:qQ} (s:SlI .u8 w vb c.2.2.1) (h:xk c):yH w [υ c.1,υ c.2.1,vb] c:=
 ⟨⟨rfl,DH h.n⟩,⟨rfl,DH h.t⟩,⟨vb,rfl,SlP.of_ints s (IW h.byt)⟩,rfl⟩
structure JE (w:World) (b off i:Nat) (c:qQ) (vb:Value):Prop where
 c0:w.cell? ⟨b,off+i* 3,ϋ⟩=ϊ (.int .u8 c.1)
 c1:w.cell? ⟨b,off+i* 3+1,ϋ⟩=ϊ (.int .u8 c.2.1)
 c2:w.cell? ⟨b,off+i* 3+2,ϋ⟩=ϊ vb
 sl:SlI .u8 w vb c.2.2.1
 ok:xk c
def JE.more {b G:Nat} {t:qQ} (h:JE w b G i t vb) (m:ql w w') (d:b<w.heap.size):JE w' b G i t vb:=by
 obtain⟨H,I,J,M,N⟩:=h;exact⟨by rw[m.cells b _ d];exact H,by rw[m.cells b _ d];exact I,by rw[m.cells b _ d];exact J,M.keep m,N⟩
def Ae {l:List qQ} (h:SlP 3 yH w v l): ∃d cap,v= δ d l.length cap/\(l.length:Int)<=9223372036854775807/\ ∀i,i<l.length-> ∃b G vb,d=ϊ ⟨b,G,ϋ⟩/\b<w.heap.size/\JE w b G i (l.getD i xu) vb:=by
 obtain⟨d,cap,N,O,U,_⟩:=h;refine⟨d,cap,N,O,λi hi=> ?_⟩;obtain⟨b,G,cs,e,Y,ab,H,ac⟩:=U i hi;have e0:=H 0 τ;have I:=H 1 τ;have J:=H 2 τ;have M:l.getD i xu=l[i]:=by simp[hi]
 rw[M];obtain⟨vb,rfl,ad,aa⟩:=Co ac ab;simp at e0 I J;exact⟨b,G,vb,e,Y,e0,I,J,ad,aa⟩
def jx (c:qQ):Bool:=decide (c.1<=31/\c.2.2.1.length%4=0/\c.2.2.1.length<=196)
def xR (c:qQ) (M:SlI .u8 w vb c.2.2.1) (O:c.2.2.1.length<=1000000):
  Calls prog 260 #[θ #[υ c.1,υ c.2.1,vb]] w λe w'=>e= .returned (μ (jx c))/\ql w w':=by
 obtain⟨k,n,b,⟨⟩⟩:=c;simp only at *;obtain⟨N,J,rfl,_⟩:=M;have H:=ql.alloc w (.cells #[υ k,υ n,δ N b.length J] 291);by_cases h1:k<=31
 ·by_cases h2:b.length%4=0
  ·by_cases h3:b.length<=196
   ·have d:jx (k,n,b,())=ό:=by unfold jx;simp[h1,h2,h3]
    have G:=κ d;clear d;have I:((b.length:Int)).tmod 4=0:=by rw[D3 τ];omega
    go_enter func260,ntmps260
    go_wp2
    all_goals (go_ret;exact⟨by rw[G.o];first | rfl | exact qZ (ϭ τ) | exact qZ (ϫ τ),H⟩)
   ·have d:jx (k,n,b,())=ύ:=by unfold jx;simp[h3]
    have G:=κ d;clear d;have I:((b.length:Int)).tmod 4=0:=by rw[D3 τ];omega
    go_enter func260,ntmps260
    go_wp2
    all_goals (go_ret;exact⟨by rw[G.o];first | rfl | exact qZ (ϭ τ) | exact qZ (ϫ τ),H⟩)
  ·have d:jx (k,n,b,())=ύ:=by unfold jx;simp[h2]
   have G:=κ d;clear d;have I: ¬((b.length:Int)).tmod 4=0:=by rw[D3 τ];omega
   go_enter func260,ntmps260
   go_wp2
   all_goals (go_ret;exact⟨by rw[G.o];first | rfl | exact qZ (ϭ τ) | exact qZ (ϫ τ),H⟩)
 ·have d:jx (k,n,b,())=ύ:=by unfold jx;simp[h1]
  have G:=κ d;clear d
  go_enter func260,ntmps260
  go_wp2
  all_goals (go_ret;exact⟨by rw[G.o];first | rfl | exact qZ (ϭ τ) | exact qZ (ϫ τ),H⟩)
def zS {t:Nat} (d:B=w.heap.size): ∀j u,cs.toList[j]? =ϊ u->(w.alloc (.cells cs t)).cell? ⟨B,j,ϋ⟩=ϊ u:=by
 intro j u h;subst d;exact qm (qj w _) j (by simpa using h)
def kv (l:List α) (j:Nat) (d:α) (h:j<l.length):l.take (j+1)=l.take j++[l.getD j d]:=by
 rw[A8,ϖ h];simp[h]
def chB (c:qQ):List Int:=qy (128+c.1) 1++(qy c.2.1 1++(qy ((c.2.2.1.length:Int)/4) 2++c.2.2.1))
def flC (l:List qQ):List Int:=l.flatMap chB
def szC (l:List qQ):Nat:=(l.map λc=>4+c.2.2.1.length).sum
def YJ (c:qQ):(chB c).length=4+c.2.2.1.length:=by
 unfold chB;simp[qK];omega
def YH (l:List qQ):(flC l).length=szC l:=by
 induction l with
 | nil=>rfl
 | cons c l ih=>
  have e:flC (c::l)=chB c++flC l:=rfl;have d:szC (c::l)=4+c.2.2.1.length+szC l:=by simp[szC]
  rw[e,d,Ϗ,YJ,ih]
def Ck (l:List qQ) (j:Nat) (h:j<l.length):flC (l.take (j+1))=flC (l.take j)++chB (l.getD j xu):=by
 unfold flC;rw[kv l j xu h,N6];simp
def JZ (l:List qQ) (j:Nat) (h:j<l.length):szC (l.take (j+1))=szC (l.take j)+(4+(l.getD j xu).2.2.1.length):=by
 unfold szC;rw[kv l j xu h,Ξ,List.sum_append];simp
def DX (l:List qQ) (j:Nat):szC (l.take j)<=szC l:=by
 conv=>rhs;rw[<-A9 j l]
 unfold szC;rw[Ξ,List.sum_append];omega
def vW (l:List qQ):List Int×Int:=if l.all jx=ύ then ([],1) else if 200<szC l then ([],4) else (flC l,0)
def zO (c:qQ):jx c=ό↔c.1<=31/\c.2.2.1.length%4=0/\c.2.2.1.length<=196:=by unfold jx;simp
def PA {l:List qQ} (hi:i<l.length) (h:jx (l.getD i xu)=ύ):vW l=([],1):=by
 unfold vW;rw[ϐ];rw[List.all_eq_false];exact⟨l.getD i xu,by simp[hi],by rw[h];simp⟩
def PB {l:List qQ} (h: ∀i,i<l.length->jx (l.getD i xu)=ό):l.all jx=ό:=by
 rw[G9];intro c d;obtain⟨i,hi,rfl⟩:=A4.1 d;have:=h i hi
 simpa [hi] using this
def Dy (v:Value) (l:List qQ) (w:World) (sl:SlP 3 yH w v l) (bm:l.length<=100000) (ab: ∀i,i<l.length->(l.getD i xu).2.2.1.length<=1000000):
  Calls prog 206 #[v] w λe w'=> ∃vx,e= .returned (.tuple #[vx,ι (vW l).2])/\SlI .u8 w' vx (vW l).1/\ql w w'/\ ∀b,vx.ownBlock=ϊ b->w.heap.size<=b:=by
 obtain⟨bt,cap,rfl,bn,O⟩:=Ae sl;clear sl
 go_enter func206,ntmps206
 go_wp2
 go_loopw [4,12] (λs i wr=> ∃j:Nat,j<=l.length/\i= ι j/\s= ι (szC (l.take j):Nat)/\szC (l.take j)<=200* j/\(∀i,i<j->jx (l.getD i xu)=ό)/\ql w wr) (λ_ i _=>l.length-(intOf i).toNat)
 case atStart=>exact⟨0,τ,rfl,rfl,by simp[szC],λi hi=>by omega,ql.refl _⟩
 case round=>
  obtain⟨j,G,rfl,rfl,aJ,N,d⟩:=hrel;by_cases hlt:j<l.length
  ·obtain⟨b,bc,vb,rfl,H,M⟩:=O j hlt;have bs:=κ M;obtain⟨aq,c1,c2,U,aC⟩:=M.more d H;have aW:(j:Int)<(l.length:Int):=by omega
   have aE:=κ (U.keep (ql.alloc wr (.cells #[υ (l.getD j xu).1,υ (l.getD j xu).2.1,vb] 291)));obtain⟨aN,ar,rfl,_⟩:=U;have Y:=κ (JZ l j hlt);have au:=ab j hlt;have J:=κ (λh=>PA (l:=l) hlt h);have ad:=κ N
   have aQ:Hid (∀b,jx (l.getD j xu)=b->b=ό->(l.getD j xu).2.2.1.length<=196/\ ∀i,i<j+1->jx (l.getD i xu)=ό):=κ (λb e h=>by
    subst e;refine⟨((zO _).1 h).2.2,λi hi=> ?_⟩;by_cases e:i<j
    ·exact ad.o i e
    ·obtain rfl:i=j:=by omega
     exact h)
   clear O M N ab;generalize aV:l.getD j xu=c at *;clear aV;generalize szC (l.take j)=z at *;cases I:jx c with
   | true=>
    obtain⟨bi,aB⟩:=aQ.o ό I rfl;have aP:=κ aB;clear aB
    go_wp2_with (go_at_call 260;refine(xR c aE.o au).mono ?_;rintro e w6 ⟨rfl,ac⟩;rw[I];have ag:=(d.al _).trans ac;have bu:=β2 (qq ac (qj wr _)))
    go_roundw
    case rel=>exact⟨j+1,τ,by go_num,by rw[Y.o];go_num,by rw[Y.o];omega,aP.o,ag⟩
    case measure=>simp[intOf];omega
   | false=>
    have G:=J.o I
    go_wp2_with (go_at_call 260;refine(xR c aE.o au).mono ?_;rintro e w6 ⟨rfl,ac⟩;rw[I];have ag:=(d.al _).trans ac)
    refine bodyPost_ret (v:= .tuple #[δ ϋ 0 0,ι 1]) (by simp[results,results206,go_sem]) rfl ?_;exact⟨_,by rw[G],by rw[G];exact SlI.nil _ _,ag,λb H=>by cases H⟩
  ·obtain rfl:j=l.length:=by omega
   rw[ϱ] at *;have ax:=PB N;by_cases h200:200<szC l
   ·have G:vW l=([],4):=by unfold vW;rw[ώ (by rw[ax];simp),ϐ h200]
    have J:=κ G;have aR:(200:Int)<(szC l:Int):=by omega
    clear G O ab N;go_wp2;refine bodyPost_ret (v:= .tuple #[δ ϋ 0 0,ι 4]) (by simp[results,results206,go_sem]) rfl ?_;exact⟨_,by rw[J.o],by rw[J.o];exact SlI.nil _ _,d,λb H=>by cases H⟩
   ·have G:vW l=(flC l,0):=by unfold vW;rw[ώ (by rw[ax];simp),ώ h200]
    have J:=κ G;have aR: ¬(200:Int)<(szC l:Int):=by omega
    have ad:=κ N;clear G ab N;go_wp2;have aT:=wR wr;have aS:=d.al (.cells #[δ ϋ 0 0] 204);have aU:=d.size;generalize bj:wr.heap.size=W at *
    go_loopw [30] (λi wr=> ∃j:Nat,j<=l.length/\i= ι j/\(∃v,j5 wr W v (flC (l.take j)))/\ql w wr) (λi _=>l.length-(intOf i).toNat)
    case atStart=>exact⟨0,τ,rfl,⟨_,aT⟩,aS⟩
    case round=>
     obtain⟨j,G,rfl,⟨v,I⟩,d⟩:=hrel;by_cases hlt:j<l.length
     ·obtain⟨b,bc,vb,rfl,H,M⟩:=O j hlt;obtain⟨aq,c1,c2,U,aC⟩:=M.more d H;have aW:(j:Int)<(l.length:Int):=by omega
      have aw:=Ck l j hlt;have aJ:(flC (l.take j)).length<=200:=by rw[YH];have:=DX l j;omega
      have aD:=(zO _).1 (ad.o j hlt);have am:=κ aw;have Y:=κ U;have an:=κ M.sl;obtain⟨aN,ar,rfl,_⟩:=U;clear O M aw;generalize l.getD j xu=c at *;obtain⟨k,n,q,⟨⟩⟩:=c;simp only at aq c1 c2 aD;generalize flC (l.take j)=acc at *;obtain⟨⟨aX,bl⟩,⟨aY,aZ⟩,bo⟩:=aC;obtain⟨bp,bq,br⟩:=aD;change 0<=k at aX;change 0<=n at aY;change n<=255 at aZ;change Hid (SlI .u8 wr _ q) at Y;change Hid (SlI .u8 w _ q) at an;change Hid (_=acc++chB (k,n,q,())) at am;have ay:0<=128+k/\128+k<=255:=by omega
      have az:0<=n/\n<=255:=by omega
      have aA:0<=(q.length:Int)/4/\(q.length:Int)/4<=65535:=by omega
      have aK:(acc++qy (128+k) 1).length<=1000000:=by rw[Ϗ,qK _ _ ζ];omega
      have aL:(acc++qy (128+k) 1++qy n 1).length<=1000000:=by rw[Ϗ,Ϗ,qK _ _ ζ,qK _ _ ζ];omega
      have aM:(acc++qy (128+k) 1++qy n 1++qy ((q.length:Int)/4) 2).length+q.length<=10000000:=by rw[Ϗ,Ϗ,Ϗ,qK _ _ ζ,qK _ _ ζ,qK _ _ ζ];omega
      have bk:((q.length:Int)).tdiv 4=(q.length:Int)/4:=O2 τ;have af:=κ (O1 aK (O1 aL aM));have ae:=κ (O1 ay (O1 az aA));clear aK aL aM ay az aA;have ao:=κ (WrK.new (.cells #[υ k,υ n,δ aN q.length ar] 291) I d aU);have av:acc++qy (128+k) 1++qy n 1++qy ((q.length:Int)/4) 2++q=acc++chB (k,n,q,()):=by unfold chB;simp only[ϧ]
      have aO:=κ av;clear av
      go_wp2_with first | (go_at_call 93;((with_reducible refine(wk ao.o.wr (128+k) ae.o.1 τ).mono ?_);rintro e w6 ⟨rfl,aF⟩;obtain⟨ak,ah⟩:=ao.o.wrote aF;have bf:=β1 ah.keep;clear aF)) | (go_at_call 93;((with_reducible refine(wk ah.wr n ae.o.2.1 af.o.1).mono ?_);rintro e bx ⟨rfl,aG⟩;obtain⟨bv,ai⟩:=ah.wrote aG;have bg:=β2 ai.keep;clear aG)) | (go_at_call 94;(go_call kU ai.wr ((q.length:Int)/4) ae.o.2.2 af.o.2.1 as e w8 ⟨rfl,aH⟩;obtain⟨bw,aa⟩:=ai.wrote aH;have bh:=β2 aa.keep;have be:=an.o.keep aa.more;clear aH)) | (go_at_call 96;(go_call uU aa.wr _ _ be af.o.2.2 as e w9 ⟨rfl,aI⟩;obtain⟨v9,ap⟩:=aa.wrote aI;clear aI))
      go_roundw
      case rel=>exact⟨j+1,τ,by go_num,⟨v9,by rw[am.o,<-aO.o];exact ap.wr⟩,ap.more⟩
      case measure=>simp[intOf];omega
     ·obtain rfl:j=l.length:=by omega
      rw[ϱ] at I;have aJ:(flC l).length<=200:=by rw[YH];omega
      clear O
      go_wp2_with (go_at_call 97;refine(wZ I τ).mono ?_;rintro e w6 ⟨ak,rfl,aj,ba⟩;have bd:=κ (SlI.of_owns aj τ);have bb:=κ (λ(b:Nat) (H:ak.ownBlock=ϊ b)=>Ϙ d.size (jG aj H));clear aj)
      refine bodyPost_ret (v:= .tuple #[ak,ι 0]) (by simp[results,results206,go_sem]) rfl ?_;exact⟨_,by rw[J.o],by rw[J.o];exact bd.o,d.trans ba,bb.o⟩
def xg (b:List Int):List Int×Bool:=
 if b=[] then ([],ύ) else
  let n:=b.getD (b.length-1) 0
  if n=0∨ ¬n%4=0∨(b.length:Int)<n then ([],ύ) else (b.take (b.length-n.toNat),ό)
def Dn (U:SlI .u8 w v b) (O:Byt b):
  Calls prog 303 #[v] w λe w'=>(∃v',e= .returned (.tuple #[v',μ (xg b).2])/\SlI .u8 w v' (xg b).1/\ ∀g,v'.ownBlock=ϊ g->v.ownBlock=ϊ g)/\w'=w:=by
 have H:=κ U;obtain⟨aq,cap,rfl,ad,J,ae,af,M⟩:=U;by_cases hn:b=[]
 ·subst hn;have G:xg []=([],ύ):=rfl;have d:=κ G;clear G H M
  go_enter func303,ntmps303
  go_wp2;refine bodyPost_ret (v:= .tuple #[δ ϋ 0 0,ύ]) (by simp[results,results303,go_sem]) rfl ?_;exact⟨⟨_,rfl,SlI.nil _ _,λg h=>by cases h⟩,rfl⟩
 ·have ai:0<b.length:=B4.2 hn;obtain⟨I,Y,rfl,aj,ag⟩:=J (b.length-1) τ;have aa:=O (b.length-1);have ah:((b.length:Int)-1)=((b.length-1:Nat):Int):=by omega
  have ap:((b.length:Int)-1).toNat=b.length-1:=by omega
  have N: ∀n,b.getD (b.length-1) 0=n->xg b=if n=0∨ ¬n%4=0∨(b.length:Int)<n then ([],ύ) else (b.take (b.length-n.toNat),ό):=λn e=>by
   unfold xg;rw[ώ hn];simp only[e]
  have d:=κ (N _ rfl);clear N J O M hn;generalize b.getD (b.length-1) 0=n at *;obtain⟨ab,ak⟩:=aa;have ao:n.tmod 4=n%4:=D3 ab;have ac:n=0∨(¬n=0/\ ¬n%4=0)∨(¬n=0/\n%4=0/\(b.length:Int)<n)∨(¬n=0/\n%4=0/\ ¬(b.length:Int)<n):=by omega
  rcases ac with h | ⟨h,h'⟩ | ⟨h,h',h''⟩ | ⟨h,h',h''⟩
  ·have G:xg b=([],ύ):=by rw[d.o,ϐ (ϒ h)]
   clear d;have d:=κ G;clear G;subst h
   go_enter func303,ntmps303
   go_wp2;refine bodyPost_ret (v:= .tuple #[δ ϋ 0 0,ύ]) (by simp[results,results303,go_sem]) rfl ?_;exact⟨⟨δ ϋ 0 0,by rw[d.o],by rw[d.o];exact SlI.nil _ _,λg h=>by cases h⟩,rfl⟩
  ·have G:xg b=([],ύ):=by rw[d.o,ϐ (ϔ (ϒ h'))]
   clear d;have d:=κ G;clear G
   go_enter func303,ntmps303
   go_wp2;refine bodyPost_ret (v:= .tuple #[δ ϋ 0 0,ύ]) (by simp[results,results303,go_sem]) rfl ?_;exact⟨⟨δ ϋ 0 0,by rw[d.o],by rw[d.o];exact SlI.nil _ _,λg h=>by cases h⟩,rfl⟩
  ·have G:xg b=([],ύ):=by rw[d.o,ϐ (ϔ (ϔ h''))]
   clear d;have d:=κ G;clear G
   go_enter func303,ntmps303
   go_wp2;refine bodyPost_ret (v:= .tuple #[δ ϋ 0 0,ύ]) (by simp[results,results303,go_sem]) rfl ?_;exact⟨⟨δ ϋ 0 0,by rw[d.o],by rw[d.o];exact SlI.nil _ _,λg h=>by cases h⟩,rfl⟩
  ·have G:xg b=(b.take (b.length-n.toNat),ό):=by rw[d.o,ώ τ]
   clear d;have d:=κ G;clear G;obtain⟨m,rfl⟩: ∃m:Nat,n=m:=⟨n.toNat,τ⟩;have al:(0:Int)<=(b.length:Int)-(m:Int):=by omega
   have am:(b.length:Int)-(m:Int)<=(cap:Int):=by omega
   have an:((b.length:Int)-(m:Int)).toNat=b.length-m:=by omega
   go_enter func303,ntmps303
   go_wp2;refine bodyPost_ret (v:= .tuple #[δ (ϊ ⟨I,Y,ϋ⟩) (b.length-m) cap,ό]) (by simp[results,results303,go_sem]) rfl ?_;exact⟨⟨δ (ϊ ⟨I,Y,ϋ⟩) (b.length-m) cap,by rw[d.o],by rw[d.o];exact H.o.take _ τ,λg h=>h⟩,rfl⟩
def Aj: ∀m:Fin 256,bits .and .u8 (m.val:Int) 31=(m.val:Int)%32/\bits .and .u8 (m.val:Int) 32=if (m.val:Int)%64<32 then 0 else 32:=ϟ ξ
def Mr (h:0<=n/\n<=255):bits .and .u8 n 31=n%32:=by
 obtain⟨m,rfl⟩:=Γ h.1;exact(Aj ⟨m,τ⟩).1
def Mq (h:0<=n/\n<=255):(bits .and .u8 n 32 != 0)= !decide (n%64<32):=by
 obtain⟨m,rfl⟩:=Γ h.1;rw[(Aj ⟨m,τ⟩).2];simp only;by_cases e:(m:Int)%64<32
 ·rw[ϐ e];simp[e]
 ·rw[ώ e];simp;omega
def ze (s:RdS):(Int×Int×Int)×RdS:=((num (tkB s.1 1),num (tkB (tkS s 1).1 1),num (tkB (tkS (tkS s 1) 1).1 2)),tkS (tkS (tkS s 1) 1) 2)
def ua (f:Int) (s:RdS):RdS:=if f<128∨191<f then wrS s 2 else s
def vG (f t n:Int) (s:RdS):qQ×RdS:=
 if f%64<32 then ((f%32,t,tkB s.1 (4* n),()),tkS s (4* n))
 else ((f%32,t,(xg (tkB s.1 (4* n))).1,()),if (xg (tkB s.1 (4* n))).2=ύ∨ ¬(tkS s (4* n)).1=[] then wrS (tkS s (4* n)) 2 else tkS s (4* n))
def qP (s:RdS):qQ×RdS:=
 vG (ze s).1.1 (ze s).1.2.1 (ze s).1.2.2 (ua (ze s).1.1 (ze s).2)
structure RdK (w0 w:World) (R:Nat) (l:List Int) (e:Int) (B:Nat) (o:Obj) (C:Nat->Prop):Prop where
 rd:qu w R l e C
 away:jt (λb=>b=R) w0 w
 keep:w.heap[B]? =ϊ o
 ne: ¬B=R
def RdK.new (o:Obj) (h:qu w R l e C):RdK w (w.alloc o) R l e w.heap.size o C:=
 ⟨h.more (ql.alloc w o),jt.of_more (ql.alloc w o),qj w o,λe=>by obtain⟨v,d,_⟩:=h.blk;have:=qn d;omega⟩
def RdK.step {G:World} {l':List Int} {d:Int} (h:RdK G w R l e B o C) (r:qu w' R l' d C) (a:jt (λb=>b=R) w w'):RdK G w' R l' d B o C:=
 ⟨r,h.away.trans a,a.blk h.keep h.ne,h.ne⟩
def Uj (h:Byt b):Byt (xg b).1:=by
 unfold xg;split
 ·exact xh
 ·simp only;split
  ·exact xh
  ·exact h.take _
def Wf (h:qu w R s.1 s.2 C):
  Calls prog 279 #[γ R] w λe w'=>(∃vb,e= .returned (θ #[υ (qP s).1.1,υ (qP s).1.2.1,vb])/\SlI .u8 w' vb (qP s).1.2.2.1/\xk (qP s).1/\ ∀g,vb.ownBlock=ϊ g->w.heap.size<=g)/\qu w' R (qP s).2.1 (qP s).2.2 C/\jt (λb=>b=R) w w':=by
 have bR:R<w.heap.size:=by obtain⟨v,ah,_⟩:=h.blk;exact qn ah
 have af:=RdK.new (.cells #[υ 0,υ 0,()] 291) h.old;have aR:=jL h.byt 1;have aX:=zh s.1 1 ζ;have aw:=zv _ 1 aR aX ζ;have aS:qP s=vG (ze s).1.1 (ze s).1.2.1 (ze s).1.2.2 (ua (ze s).1.1 (ze s).2):=rfl;have ad:=κ aS;clear aS;obtain⟨L,E⟩:=s;simp only at h af;have aO:Byt (tkL L 1):=h.byt.drop _;have bB:Byt (tkL (tkL L 1) 1):=aO.drop _;have bb:=zv _ 1 (jL aO 1) (zh (tkL L 1) 1 ζ) ζ;have bc:=zv _ 2 (jL bB 2) (zh (tkL (tkL L 1) 1) 2 ζ) ζ;have aT:ze (L,E)=((num (tkB L 1),num (tkB (tkL L 1) 1),num (tkB (tkL (tkL L 1) 1) 2)),(tkL (tkL (tkL L 1) 1) 2,tkE (tkL (tkL L 1) 1) 2 (tkE (tkL L 1) 1 (tkE L 1 E)))):=rfl;rw[aT] at ad;simp only at ad aw;clear aT aR aX;generalize aY:num (tkB L 1)=f at *;generalize aZ:num (tkB (tkL L 1) 1)=t at *;generalize ba:num (tkB (tkL (tkL L 1) 1) 2)=n at *;generalize aQ:tkL (tkL (tkL L 1) 1) 2=L3 at *;generalize aP:tkE (tkL (tkL L 1) 1) 2 (tkE (tkL L 1) 1 (tkE L 1 E))=E3 at *;have aU:0<=f/\f<=255:=by have:=aw;simp at this;omega
 have bE:0<=t/\t<=255:=by have:=bb;simp at this;omega
 have bS:0<=n/\n<=65535:=by have:=bc;simp at this;omega
 have bQ:=Mr aU;have bA:=Mq aU;clear aw bb bc
 have bF:Hid (∀N vb q (G:RdS),RdK w N R G.1 G.2 w.heap.size (.cells #[υ 0,υ 0,()] 291) (λg=>C g/\g<w.heap.size)->qP (L,E)=((f%32,t,q,()),G)->SlI .u8 N vb q->Byt q->(∀g,vb.ownBlock=ϊ g->w.heap.size+1<=g)->(∃vb',Ending.returned (θ #[υ (f%32),υ t,vb])= .returned (θ #[υ (qP (L,E)).1.1,υ (qP (L,E)).1.2.1,vb'])/\SlI .u8 (((N.setCell ⟨w.heap.size,0,ϋ⟩ (υ (f%32))).setCell ⟨w.heap.size,1,ϋ⟩ (υ t)).setCell ⟨w.heap.size,2,ϋ⟩ vb) vb' (qP (L,E)).1.2.2.1/\xk (qP (L,E)).1/\ ∀g,vb'.ownBlock=ϊ g->w.heap.size<=g)/\qu (((N.setCell ⟨w.heap.size,0,ϋ⟩ (υ (f%32))).setCell ⟨w.heap.size,1,ϋ⟩ (υ t)).setCell ⟨w.heap.size,2,ϋ⟩ vb) R (qP (L,E)).2.1 (qP (L,E)).2.2 C/\jt (λb=>b=R) w (((N.setCell ⟨w.heap.size,0,ϋ⟩ (υ (f%32))).setCell ⟨w.heap.size,1,ϋ⟩ (υ t)).setCell ⟨w.heap.size,2,ϋ⟩ vb)):=κ (by
  intro N vb q G X bz bI ag aV;have O:jt (λb=>b=w.heap.size) N (((N.setCell ⟨w.heap.size,0,ϋ⟩ (υ (f%32))).setCell ⟨w.heap.size,1,ϋ⟩ (υ t)).setCell ⟨w.heap.size,2,ϋ⟩ vb):=(((jt.refl (λb=>b=w.heap.size) N).set (p:=⟨w.heap.size,0,ϋ⟩) rfl _).set (p:=⟨w.heap.size,1,ϋ⟩) rfl _).set (p:=⟨w.heap.size,2,ϋ⟩) rfl _;rw[bz];refine⟨⟨vb,rfl,bI.off (λb av e=>by have:=aV b av;omega) O,⟨by simp only;omega,bE,ag⟩,λg h=>by have:=aV g h;omega⟩, ?_, ?_⟩
  ·exact(X.rd.off O (λe=>X.ne e.symm) (λg bC e=>by have:=bC.2;omega)).mono λg h=>h.1
  ·exact⟨O.os.trans X.away.os,O.tape.trans X.away.tape,O.output.trans X.away.output,Ϙ X.away.size O.size,λk aW bD=>by rw[O.block k (ϗ aW X.away.size) τ];exact X.away.block k aW bD⟩)
 obtain⟨⟨d,J⟩,au⟩: ∃S4,ua f (L3,E3)=S4:=⟨_,rfl⟩;rw[au] at ad;have aj:=κ au;clear au
 go_enter func279,ntmps279
 go_upto_region 2 with (first | (go_at_call 52;((with_reducible refine(jT af.rd).mono ?_);rintro e w6 ⟨rfl,bi,aH⟩;have al:=af.step bi aH;rw[aY])) | (go_at_call 52;((with_reducible refine(jT al.rd).mono ?_);rintro e bW ⟨rfl,bj,aI⟩;have am:=al.step bj aI;rw[aZ])) | (go_at_call 53;(go_call xn am.rd as e w8 ⟨rfl,bk,aJ⟩;have an:=am.step bk aJ;rw[ba];rw[aQ,aP] at an)))
 have ae:=κ an;clear af al am an bi bj bk aH aI aJ aY aZ ba aQ aP h;obtain⟨q,bd⟩:=ν (decide (f<128∨191<f));have U:=κ bd;clear bd
 go_cut [20] from 15 to 51 (λv H=>v= μ q/\w8=H)
 case first=>
  by_cases ah:f<128
  ·go_wp2;go_meet;exact⟨by rw[<-U.o];simp[ah],rfl⟩
  ·by_cases h2:191<f
   ·go_wp2;go_meet;exact⟨by rw[<-U.o];simp[h2],rfl⟩
   ·go_wp2;go_meet;exact⟨by rw[<-U.o];simp[ah,h2],rfl⟩
 case rest=>
 obtain⟨rfl,rfl⟩:=hcut
 go_upto_if 20 with fail
 go_cut [] from 21 to 51 (λH=>RdK w H R d J w.heap.size (.cells #[υ 0,υ 0,()] 291) (λg=>C g/\g<w.heap.size))
 case first=>
  cases q
  ·have ac:Hid ((L3,E3)=(d,J)):=κ (by rw[<-aj.o];exact(ώ (C1 U.o)).symm);go_wp2;go_meet;have x:=ae.o;rw[show L3=d from ϯ Prod.fst ac.o,show E3=J from ϯ Prod.snd ac.o] at x;exact x
  ·have ac:Hid (wrS (L3,E3) 2=(d,J)):=κ (by rw[<-aj.o];exact(ϐ (ϟ U.o)).symm)
   go_wp2_with ((go_at_call 55;(go_call zo (s:=(L3,E3)) ae.o.rd 2 as e w9 ⟨rfl,bl,a9⟩;have M:=κ (ae.o.step bl a9);clear bl a9)))
   go_meet;have x:=M.o;rw[ac.o] at x;exact x
 case rest=>
 have M:=κ hcut;clear hcut ae aj U
 go_upto_region 5 with ((go_at_call 56;(go_call QI (4* n) M.o.rd as e w10 ⟨bJ,rfl,ax,bg,aG⟩;have Y:=κ (M.o.step bg aG);have aA:=κ (SlI.of_owns ax (by have:=Vm d (4* n);have:=M.o.rd.small;omega));have aK:Hid (∀g,bJ.ownBlock=ϊ g->w.heap.size+1<=g):=κ (λg h=>Ϙ (ϗ (qn M.o.keep) (ϕ _)) (jG ax h));have ap:=κ (jL M.o.rd.byt (4* n));obtain⟨bT,bL,rfl,_⟩:=id aA.o;clear ax bg aG)))
 obtain⟨p,az⟩:=ν ((!decide (f%64<32)));rw[az] at bA;have aE:=κ az;clear az M;generalize aN:tkB d (4* n)=B at *;have aC:=κ aN;clear aN
 go_upto_if 30 with fail
 go_cut [6] from 31 to 51 (λv H=> ∃(o:Option Addr) (c:Nat) (q:List Int) (G:RdS),v= δ o q.length c/\SlI .u8 H (δ o q.length c) q/\Byt q/\(∀g,(δ o q.length c).ownBlock=ϊ g->w.heap.size+1<=g)/\RdK w H R G.1 G.2 w.heap.size (.cells #[υ 0,υ 0,()] 291) (λg=>C g/\g<w.heap.size)/\vG f t n (d,J)=((f%32,t,q,()),G))
 case first=>
  cases p
  ·go_wp2;go_meet;exact⟨_,_,_,(tkL d (4* n),tkE d (4* n) J),rfl,aA.o,ap.o,aK.o,Y.o,by unfold vG;rw[ϐ (by have:=aE.o;simpa using this),aC.o];rfl⟩
  ·have aD:Hid (vG f t n (d,J)=((f%32,t,(xg B).1,()),if (xg B).2=ύ∨ ¬tkL d (4* n)=[] then wrS (tkL d (4* n),tkE d (4* n) J) 2 else (tkL d (4* n),tkE d (4* n) J))):=κ (by unfold vG;rw[ώ (by have:=aE.o;simpa using this),aC.o];rfl);have bt:=κ (Uj (b:=B) ap.o);obtain⟨bf,ay⟩:=ν ((xg B).2);obtain⟨aa,ar⟩:=ν (tkL d (4* n));obtain⟨ai,aq⟩:=ν (tkE d (4* n) J);obtain⟨z,be⟩:=ν (decide (bf=ύ∨ ¬aa=[]));have ak:=κ be;have aF:=κ (Dn aA.o ap.o);rw[ay] at aF;rw[ar,aq] at Y;rw[ay,ar,aq] at aD;clear ay ar aq be
   go_upto_region 7 with (go_at_call 303;(go_call aF.o as e bo ⟨⟨bV,rfl,bm,aL⟩,rfl⟩;have bu:=κ bm;have aB:=κ (λg h=>aK.o g (aL g h));obtain⟨bU,bM,rfl,_⟩:=bm;clear aL))
   go_cut [42] from 36 to 51 (λv H=>v= μ z/\bo=H)
   case first=>
    cases bf
    ·go_wp2;go_meet;exact⟨by rw[<-ak.o];rfl,rfl⟩
    ·go_wp2_with (go_at_call 57;(go_call zn Y.o.rd as e bK ⟨rfl,rfl⟩))
     go_meet;exact⟨by rw[<-ak.o];cases aa<;>simp,rfl⟩
   case rest=>
   obtain⟨rfl,rfl⟩:=hcut
   go_upto_if 42 with fail
   go_cut [] from 43 to 51 (λH=> ∃G:RdS,RdK w H R G.1 G.2 w.heap.size (.cells #[υ 0,υ 0,()] 291) (λg=>C g/\g<w.heap.size)/\(if z then wrS (aa,ai) 2 else (aa,ai))=G/\jt (λb=>b=R) bo H)
   case first=>
    cases z
    ·go_wp2;go_meet;exact⟨_,Y.o,rfl,jt.refl _ _⟩
    ·go_wp2_with ((go_at_call 55;(go_call zo (s:=(aa,ai)) Y.o.rd 2 as e bK ⟨rfl,bh,ao⟩;have bv:=κ (Y.o.step bh ao);have bp:=κ ao;clear bh ao)))
     go_meet;exact⟨_,bv.o,rfl,bp.o⟩
   case rest=>
   obtain⟨G,I,ab,a9⟩:=hcut;have M:=κ I;have br:=κ ab;have bq:=κ a9;clear I ab a9;go_wp2;go_meet;exact⟨_,_,_,G,rfl,bu.o.off (λb av e=>by have:=aB.o b av;omega) bq.o,bt.o,aB.o,M.o,by rw[aD.o,<-br.o,<-ak.o];simp⟩
 case rest=>
 obtain⟨bG,bx,bH,G,rfl,bn,ag,aM,I,ab⟩:=hcut;have bw:=β0 I.keep;have c1:=β1 I.keep;have c2:=β2 I.keep;have bN:=yw I.keep 0;have bO:=yw I.keep 1;have bP:=yw I.keep 2;have bs:=κ (bF.o _ _ _ _ I (ad.o.trans ab) bn ag aM);clear I ab bn ag aM;go_wp2
 (refine bodyPost_ret (v:= θ #[υ (f%32),υ t,δ bG bH.length bx]) ?rr1 rfl ?_;(case rr1=>(simp[results,results279,go_sem,bw,c1,c2])))
 exact bs.o
def vd:Nat->List qQ->RdS->List qQ×RdS
 | 0,acc,s=>(acc,s)
 | n+1,acc,s=>if (qP s).2.1=[] then (acc++[(qP s).1],(qP s).2) else vd n (acc++[(qP s).1]) (qP s).2
def jI (b:List Int):List qQ×Int:=
 if 200<b.length then ([],4) else if (vd (b.length+1) [] (b,0)).2.2=0 then ((vd (b.length+1) [] (b,0)).1,0) else ([],(vd (b.length+1) [] (b,0)).2.2)
def vH (s:RdS) (x:Int):(wrS s x).1.length<=s.1.length:=by unfold wrS;split<;>simp
def uN (s:RdS) (n:Int):(tkS s n).1.length<=s.1.length:=by
 show (tkL s.1 n).length<=_;unfold tkL;simp
def ZC (s:RdS):(qP s).2.1.length<=s.1.length-1:=by
 have d:(ze s).2.1.length<=s.1.length-1:=by
  show (tkS (tkS (tkS s 1) 1) 2).1.length<=_;have d:=uN (tkS (tkS s 1) 1) 2;have G:=uN (tkS s 1) 1;have H:(tkS s 1).1.length=s.1.length-1:=by
   show (tkL s.1 1).length=_;unfold tkL;simp
  omega
 have G:(ua (ze s).1.1 (ze s).2).1.length<=(ze s).2.1.length:=by
  unfold ua;split
  ·exact vH _ _
  ·exact ϕ _
 have H: ∀f t n s,(vG f t n s).2.1.length<=s.1.length:=by
  intro f t n s;have:=uN s (4* n);unfold vG;split
  ·exact this
  ·simp only;split
   ·exact Ϙ (vH _ _) this
   ·exact this
 exact Ϙ (H _ _ _ _) (Ϙ G d)
structure yG (w0 w:World) (R B0:Nat) (C:Nat->Prop) (b:List Int) (v:Value) (acc:List qQ) (s:RdS):Prop where
 rd:qu w R s.1 s.2 C
 row:je 3 yH (λk=>k=R) w B0 291 v acc
 more:ql w0 w
 len:acc.length+s.1.length<=b.length
 ans: ∃n,s.1.length<n/\vd n acc s=vd (b.length+1) [] (b,0)
 hR:w0.heap.size<=R
 RB:R<B0
 BW:B0<=w.heap.size
 CB: ∀g,C g->g<B0
def yG.body {I w6 w8:World} {G:Nat} (h:yG I w R G C b v acc s)
  (aa:qu w6 R (qP s).2.1 (qP s).2.2 C) (J:jt (λb=>b=R) w w6) (ab:je 3 yH (λk=>k=R) w8 G 291 v' (acc++[(qP s).1])) (d:(w6.alloc o).grownBy w8 v.ownBlock):
  qu w8 R (qP s).2.1 (qP s).2.2 C/\ql I w8/\G<=w8.heap.size:=by
 have H: ∀g,v.ownBlock=ϊ g->G<=g:=λg e=>h.row.ge e
 have Y:ql I (w6.alloc o):=(Jv J h.more h.hR).al o;have M:jt (λk=>v.ownBlock=ϊ k) (w6.alloc o) w8:=⟨d.os,d.tape,d.output,d.size,λk O U=>d.block k O (λe=>U e.symm)⟩;refine⟨(aa.more (ql.alloc w6 o)).off M (λe=> ?_) (λg N e=> ?_),jt.to_more Y M (λk e=> ?_),Ϙ h.BW (Ϙ J.size (Ϙ (ql.alloc w6 o).size d.size))⟩
 ·have:=H R e;have:=h.RB;omega
 ·have:=H g e;have:=h.CB g N;omega
 ·have:=H k e;have:=h.RB;have:=h.hR;omega
def yG.next {H w8:World} {d:Nat} (h:yG H w R d C b v acc s)
  (J:je 3 yH (λk=>k=R) w8 d 291 v' (acc++[(qP s).1])) (G:qu w8 R (qP s).2.1 (qP s).2.2 C/\ql H w8/\d<=w8.heap.size) (I: ¬(qP s).2.1=[]):
  yG H w8 R d C b v' (acc++[(qP s).1]) (qP s).2:=by
 have M:=ZC s;have N:=B4.2 I;refine⟨G.1,J,G.2.1, ?_, ?_,h.hR,h.RB,G.2.2,h.CB⟩
 ·have:=h.len;simp;omega
 ·obtain⟨n,O,e⟩:=h.ans;cases n with
  | zero=>omega
  | succ n=>
   refine⟨n,τ, ?_⟩;rw[<-e,vd,ώ I]
def yG.stop {I:World} {d:Nat} (h:yG I w R d C b v acc s) (G: ¬200<b.length) (H:(qP s).2.1=[]):
  jI b=if (qP s).2.2=0 then (acc++[(qP s).1],0) else ([],(qP s).2.2):=by
 obtain⟨n,J,e⟩:=h.ans;cases n with
 | zero=>omega
 | succ n=>
  rw[vd,ϐ H] at e;unfold jI;rw[ώ G,<-e]
def Dv (h:qu w R [] e C):
  Calls prog 59 #[γ R] w λd w'=>d= .returned (ι e)/\w'=w:=by
 refine(yT h).mono ?_;rintro d w' ⟨rfl,rfl⟩;refine⟨?_,rfl⟩;by_cases x:e=0
 ·rw[ώ (by simp[x]),ώ η,x]
 ·rw[ϐ x]
def QO:Value->Nat
 | .slice _ n _=>n
 | _=>0
def Kc {J:World} {G:Nat} (h:yG J w R G C b v acc s) (H: ∀g,vb.ownBlock=ϊ g->w.heap.size<=g) (k:Nat) (I:vb.ownBlock=ϊ k) (d:k=R∨v.ownBlock=ϊ k):False:=by
 have M:=H k I;rcases d with rfl | d
 ·have:=h.RB;have:=h.BW;omega
 ·have:=h.row.lt d;omega
def AT {G w6:World} {d:Nat} (h:yG G w R d C b v acc s) (a:jt (λb=>b=R) w w6) {k:Nat} (H:k=R):k<(w6.alloc o).heap.size:=by
 have:=h.RB;have:=h.BW;have:=a.size;have:=(ql.alloc w6 o).size;omega
def Ut {G w6:World} {d:Nat} (h:yG G w R d C b v acc s) (a:jt (λb=>b=R) w w6):d<=(w6.alloc o).heap.size:=by
 have:=h.BW;have:=a.size;have:=(ql.alloc w6 o).size;omega
def Z6 (v:Value) (b:List Int) (w:World) (sl:SlI .u8 w v b) (J:Byt b) (bk:b.length<=1000000):
  Calls prog 240 #[v] w λe w'=> ∃vl,e= .returned (.tuple #[vl,ι (jI b).2])/\SlP 3 yH w' vl (jI b).1/\ql w w':=by
 obtain⟨br,hi,bn,bo,bp⟩:=info_parts (P:=prog) (e:=291) (z:= θ #[υ 0,υ 0,()]) (size:=3) (bytes:=32) ξ;have bf:=κ sl;obtain⟨bs,bg,rfl,_⟩:=sl;by_cases h200:200<b.length
 ·have M:jI b=([],4):=by unfold jI;rw[ϐ h200]
  have Y:=κ M;have bj:(200:Int)<(b.length:Int):=by omega
  clear M
  go_enter func240,ntmps240
  go_wp2
  go_step3
  go_wp2;simp only[Exit.noGoto]
  (refine bodyPost_ret (v:= .tuple #[δ ϋ 0 0,ι 4]) ?rr1 rfl ?_;(case rr1=>(simp[results,results240,go_sem])))
  exact⟨_,by rw[Y.o],by rw[Y.o];exact SlP.nil _ _ _,ql.refl _⟩
 ·have bj: ¬(200:Int)<(b.length:Int):=by omega
  have bt:b.length<=200:=by omega
  go_enter func240,ntmps240
  go_wp2;refine wp_scope_jumps 0 (λa' w'=> ∃R G C al ac af acc s aH aY aZ u8 ba aI aJ aK aL aM aN aO aP aQ aR aS aT aU aV aW aX,a'={tmps:= #[δ bs b.length bg,aH,(),ι 0,γ R,δ al ac af,aY,aZ,u8,ba,aI,aJ,aK,aL,aM,aN,aO,aP,aQ,aR,aS,aT,aU,aV,aW,aX],defers:=[]}/\yG w w' R G C b (δ al ac af) acc s/\ac=acc.length) (λa' _=>300-QO (a'.tmps.getD 5 undef)) rfl ?ja ?jb
  case' jb=>
   rintro a' w' ⟨R,G,C,al,ac,af,acc,s,aH,aY,aZ,u8,ba,aI,aJ,aK,aL,aM,aN,aO,aP,aQ,aR,aS,aT,aU,aV,aW,aX,rfl,az,aB⟩;have d:=κ az;have be:=κ aB;clear az aB
  case' ja=>
   go_wp2_with (go_at_call 51;(go_call NV _ b w bf.o J bk as e w1 ⟨R,rfl,av,aj,bm⟩))
   go_step3
   have d:Hid (yG w w1 R w1.heap.size (λg=>w.heap.size<=g/\g<w1.heap.size) b (δ ϋ 0 0) [] (b,0)):=κ ⟨aj,je.nil _ _ _ _ _ _,bm,η,⟨b.length+1,η,rfl⟩,av,by obtain⟨v,bh,_⟩:=aj.blk;exact qn bh,ϕ _,λg h=>h.2⟩;obtain⟨s,M⟩: ∃s:RdS,s=(b,0):=⟨_,rfl⟩;rw[<-M] at d;obtain⟨acc,aw⟩: ∃acc:List qQ,acc=[]:=⟨_,rfl⟩;rw[<-aw] at d;obtain⟨G,ar⟩: ∃G,G=w1.heap.size:=⟨_,rfl⟩;obtain⟨C,au⟩: ∃C:Nat->Prop,C=λg=>w.heap.size<=g/\g<w1.heap.size:=⟨_,rfl⟩
   rw[<-au,<-ar] at d;clear M aw ar au aj av
  all_goals
   obtain⟨m,aA⟩: ∃m:Bool,decide ((0:Int)<((qP s).2.1.length:Int))=m:=⟨_,rfl⟩;have O:=κ aA
   go_upto_if 19 with (first | (go_at_call 279;(go_call Wf d.o.rd as e w6 ⟨⟨vb,rfl,aG,aE,aq⟩,aF,ao⟩;have Y:=κ aG;have bd:=κ aE;have bc:=κ aq;have bb:=κ aF;have N:=κ ao;obtain⟨aD,ap,rfl,_⟩:=aG;clear aq aF aE ao)) | (at_builtin;refine jN _ rfl (.tmp 12) (.tmp 15) 385 rfl G 291 br (θ #[υ 0,υ 0,()]) 3 32 underlying385 hi bn bo bp rfl ζ _ acc rfl ((d.o.row.step N.o).on (ql.alloc w6 (.cells #[υ (qP s).1.1,υ (qP s).1.2.1,δ aD (qP s).1.2.2.1.length ap] 291))) w6.heap.size [υ (qP s).1.1,υ (qP s).1.2.1,δ aD (qP s).1.2.2.1.length ap] (qP s).1 rfl rfl (zS rfl) W5 (λw' a'=>VU ((Y.o.keep W4).off (λb J bi=>Kc d.o bc.o b J bi) a') bd.o) (λb h=>AT d.o N.o h) ζ (by have:=d.o.len;omega) (Ut d.o N.o) ?_;intro v' w8 ab ay J;have ae:=κ ab;have H:=κ (d.o.body bb.o N.o ab ay);obtain⟨am,ak,ag,rfl,aC,bq⟩:=ab.shape;have ad:=κ aC;clear ab ay J aC bq) | (go_at_call 57;(go_call zn H.o.1 as e w9 ⟨rfl,rfl⟩)))
   clear aA;cases m with
   | false=>
    have bl:((qP s).2.1.length:Int)=0:=by have:=C1 O.o;omega
    have ai:(qP s).2.1=[]:=Ϧ (by have:=C1 O.o;omega);have aa:=κ (d.o.stop h200 ai);have U:=κ ai;clear ai;obtain⟨ah,ax⟩: ∃ah:Bool,((qP s).2.2 != 0)=ah:=⟨_,rfl⟩;have an:=κ ax
    go_upto_if 23 with (go_at_call 59;(go_call Dv (R:=R) (e:=(qP s).2.2) (C:=C) (by (have:=H.o.1;rw[U.o] at this;exact this)) as e w10 ⟨rfl,rfl⟩))
    clear ax;cases ah with
    | false=>
     have I:Hid ((qP s).2.2=0):=κ (by simpa using an.o);go_wp2;simp only[Exit.jump]
     (refine bodyPost_ret (v:= .tuple #[δ am ak ag,ι 0]) ?rr2 rfl ?_;(case rr2=>(simp[results,results240,go_sem])))
     exact⟨_,by rw[aa.o,ϐ I.o],by rw[aa.o,ϐ I.o];exact ae.o.sl ζ,H.o.2.1⟩
    | true=>
     have I:Hid (¬(qP s).2.2=0):=κ (by simpa using an.o);go_wp2;simp only[Exit.jump]
     (refine bodyPost_ret (v:= .tuple #[δ ϋ 0 0,ι (qP s).2.2]) ?rr3 rfl ?_;(case rr3=>(simp[results,results240,go_sem])))
     exact⟨_,by rw[aa.o,ώ I.o],by rw[aa.o,ώ I.o];exact SlP.nil _ _ _,H.o.2.1⟩
   | true=>
    have bl:(0:Int)<((qP s).2.1.length:Int):=ϟ O.o;have U:Hid (¬(qP s).2.1=[]):=κ (λe=>by have:=ϟ O.o;rw[e] at this;simp at this);go_wp2
    go_step3
    first
     | exact⟨rfl,R,G,C,am,ak,ag,_,_,_,_,_,_,_,_,_,_,_,_,_,_,_,_,_,_,_,_,_,_,_,rfl,d.o.next ae.o H.o U.o,ad.o⟩
     | exact⟨rfl,⟨R,G,C,am,ak,ag,_,_,_,_,_,_,_,_,_,_,_,_,_,_,_,_,_,_,_,_,_,_,_,rfl,d.o.next ae.o H.o U.o,ad.o⟩,by have:=ad.o;have:=d.o.len;have:=be.o;simp[QO] at *;omega⟩
def NT (h:tkE l n e=0):e=0/\n<=l.length:=by
 unfold tkE at h;split at h
 ·cases h
 ·rename_i x;refine⟨h, ?_⟩;rcases Int.lt_or_le (l.length:Int) n with y | y
  ·exact ϩ ⟨y,h⟩ x
  ·exact y
def Ym (s:RdS): ¬(wrS s 2).2=0:=by
 unfold wrS;split
 ·rename_i h;rcases h with h | h
  ·cases h
  ·exact h
 ·decide
def Gy (G:Byt b) (h:(xg b).2=ό):(xg b).1.length<b.length/\(b.length%4=0->(xg b).1.length%4=0):=by
 unfold xg at h ⊢;split at h
 ·cases h
 ·rename_i d;rw[ώ d];simp only at h ⊢;have H:=G (b.length-1);generalize b.getD (b.length-1) 0=n at *;split at h
  ·cases h
  ·rename_i x;rw[ώ x];have I:=B4.2 d;simp only[Ϡ];omega
def Xy (L:List Int) (E:Int) (N:Byt L) (h:(qP (L,E)).2.2=0):
  E=0/\(qP (L,E)).1.1<=31/\(qP (L,E)).1.2.2.1.length%4=0/\(chB (qP (L,E)).1).length+(qP (L,E)).2.1.length<=L.length/\((chB (qP (L,E)).1).length+(qP (L,E)).2.1.length=L.length->chB (qP (L,E)).1++(qP (L,E)).2.1=L):=by
 have J:Byt (tkL L 1):=N.drop _;have H:Byt (tkL (tkL L 1) 1):=J.drop _;have ae:Byt (tkL (tkL (tkL L 1) 1) 2):=H.drop _;have ak:ze (L,E)=((num (tkB L 1),num (tkB (tkL L 1) 1),num (tkB (tkL (tkL L 1) 1) 2)),(tkL (tkL (tkL L 1) 1) 2,tkE (tkL (tkL L 1) 1) 2 (tkE (tkL L 1) 1 (tkE L 1 E)))):=rfl;have ah:qP (L,E)=vG (ze (L,E)).1.1 (ze (L,E)).1.2.1 (ze (L,E)).1.2.2 (ua (ze (L,E)).1.1 (ze (L,E)).2):=rfl;rw[ah] at h ⊢;rw[ak] at h ⊢;simp only at h ⊢;generalize ag:tkL (tkL (tkL L 1) 1) 2=L3 at *;generalize af:tkE (tkL (tkL L 1) 1) 2 (tkE (tkL L 1) 1 (tkE L 1 E))=E3 at *;generalize ai:num (tkB L 1)=f at *;generalize aq:num (tkB (tkL L 1) 1)=t at *;generalize O:num (tkB (tkL (tkL L 1) 1) 2)=n at *;have aj:ua f (L3,E3)=(L3,E3)/\128<=f/\f<=191:=by
  by_cases x:f<128∨191<f
  ·exfalso;have e:ua f (L3,E3)=wrS (L3,E3) 2:=by unfold ua;rw[ϐ x]
   rw[e] at h;have U:=Ym (L3,E3);generalize wrS (L3,E3) 2=s at *;unfold vG at h;split at h
   ·exact U (NT h).1
   ·simp only at h;split at h
    ·exact Ym _ h
    ·exact U (NT h).1
  ·exact⟨by unfold ua;rw[ώ x],τ,τ⟩
 obtain⟨ad,aF,aG⟩:=aj;rw[ad] at h ⊢;have au:tkE L3 (4* n) E3=0:=by
  unfold vG at h;split at h
  ·exact h
  ·simp only at h;split at h
   ·exact ϩ h (Ym _)
   ·exact h
 obtain⟨Y,ao⟩:=NT au;rw[<-af] at Y;obtain⟨ax,an⟩:=NT Y;obtain⟨aw,am⟩:=NT ax;obtain⟨av,al⟩:=NT aw;subst av;obtain⟨ay,aB⟩:=uM ζ al;obtain⟨az,aC⟩:=uM ζ am;obtain⟨aa,ab⟩:=uM ζ an;have ap:=zv _ 2 (jL H 2) (by rw[ab];decide) ζ;rw[O] at ap;obtain⟨aA,aD⟩:=uM (l:=L3) (n:=4* n) τ ao;have w1:=gR (jL N 1) 1 aB ζ;have w2:=gR (jL J 1) 1 aC ζ;have ac:=gR (jL H 2) 2 ab ζ;rw[ai] at w1;rw[aq] at w2;rw[O] at ac;rw[ag] at aa;have M:L=qy f 1++(qy t 1++(qy n 2++(tkB L3 (4* n)++tkL L3 (4* n)))):=by
  conv=>lhs;rw[ay,az,aa,aA]
  rw[show qy f 1=tkB L 1 from w1,show qy t 1=tkB (tkL L 1) 1 from w2,show qy n 2=tkB (tkL (tkL L 1) 1) 2 from ac]
 have aH:L.length=4+(tkB L3 (4* n)).length+(tkL L3 (4* n)).length:=by
  conv=>lhs;rw[M]
  simp only[Ϗ,qK _ _ (show (0:Int)<=1/\(1:Int)<=8 by decide),qK _ _ (show (0:Int)<=2/\(2:Int)<=8 by decide)];simp;omega
 refine⟨rfl, ?_⟩;unfold vG at h ⊢;by_cases hp:f%64<32
 ·rw[ϐ hp];have G:tkS (L3,E3) (4* n)=(tkL L3 (4* n),tkE L3 (4* n) E3):=rfl;rw[G];simp only;have d:chB (f%32,t,tkB L3 (4* n),())=qy f 1++(qy t 1++(qy n 2++tkB L3 (4* n))):=by
   unfold chB;simp only;rw[show 128+f%32=f by omega,aD,show 4* n/4=n by omega]
  have I:=YJ (f%32,t,tkB L3 (4* n),());simp only at I;refine⟨τ,τ,τ,λ_=> ?_⟩;rw[d]
  conv=>rhs;rw[M]
  simp only[ϧ]
 ·rw[ώ hp] at h ⊢;simp only at h ⊢;have G:tkS (L3,E3) (4* n)=(tkL L3 (4* n),tkE L3 (4* n) E3):=rfl;rw[G] at h ⊢;by_cases d:(xg (tkB L3 (4* n))).2=ύ∨ ¬(tkL L3 (4* n),tkE L3 (4* n) E3).1=[]
  ·rw[ϐ d] at h;exact ϩ h (Ym _)
  ·rw[ώ d];have ar:(xg (tkB L3 (4* n))).2=ό:=by
    cases x:(xg (tkB L3 (4* n))).2 with
    | true=>rfl
    | false=>exact ϩ (ϒ x) d
   obtain⟨aI,aE⟩:=Gy (jL ae (4* n)) ar;have I:=YJ (f%32,t,(xg (tkB L3 (4* n))).1,());simp only at I ⊢;refine⟨τ,aE τ,τ,λx=>by omega⟩
def jK (h:Byt s.1) (n:Int):Byt (tkS s n).1:=h.drop _
def gu (h:Byt s.1) (x:Int):Byt (wrS s x).1:=by
 unfold wrS;split
 ·exact h
 ·exact xh
def GQ (h:Byt s.1):Byt (qP s).2.1:=by
 have G:Byt (ze s).2.1:=jK (jK (jK h 1) 1) 2;have d:Byt (ua (ze s).1.1 (ze s).2).1:=by
  unfold ua;split
  ·exact gu G 2
  ·exact G
 show Byt (vG _ _ _ _).2.1;unfold vG;split
 ·exact jK d _
 ·simp only;split
  ·exact gu (jK d _) 2
  ·exact jK d _
def uv (c:qQ) (l:List qQ):flC (c::l)=chB c++flC l:=rfl
def QX: ∀(n:Nat) (acc:List qQ) (L:List Int) (E:Int),Byt L->L.length<n->(vd n acc (L,E)).2.2=0->
  ∃k,(vd n acc (L,E)).1=acc++k/\E=0/\(∀c∈k,c.1<=31/\c.2.2.1.length%4=0)/\(flC k).length<=L.length/\((flC k).length=L.length->flC k=L)
 | 0,_,_,_,_,h,_=>by omega
 | n+1,acc,L,E,hb,hn,h=>by
  have O:=ZC (L,E);rw[vd] at h ⊢;by_cases e:(qP (L,E)).2.1=[]
  ·rw[ϐ e] at h ⊢;obtain⟨H,I,J,M,G⟩:=Xy L E hb h;rw[e] at M G;refine⟨[(qP (L,E)).1],rfl,H,λc d=> ?_, ?_, ?_⟩
   ·simp at d;subst d;exact⟨I,J⟩
   ·rw[uv];simpa [flC] using M
   ·rw[uv];simpa [flC] using G
  ·rw[ώ e] at h ⊢;have ac:=B4.2 e;have N:Byt (qP (L,E)).2.1:=GQ hb;obtain⟨k,U,Y,aa,ad,ab⟩:=QX n (acc++[(qP (L,E)).1]) (qP (L,E)).2.1 (qP (L,E)).2.2 N (by simp only at O;omega) h;obtain⟨H,I,J,M,G⟩:=Xy L E hb Y;refine⟨(qP (L,E)).1::k,by rw[U];simp,H,λc d=> ?_, ?_,λx=> ?_⟩
   ·simp at d;rcases d with rfl | d
    ·exact⟨I,J⟩
    ·exact aa c d
   ·rw[uv,Ϗ];omega
   ·rw[uv,Ϗ] at x;rw[uv,ab τ];exact G τ
def D9: ∀(l:List Nat) (x:Nat),x∈l->x<=l.sum
 | y::l,x,h=>by
  simp at h;rcases h with rfl | h
  ·simp
  ·have:=D9 l x h;simp;omega
def QY {k:List qQ} (I:Byt b) (h:jI b=(k,0)):vW k=(flC k,0)/\(flC k).length<=b.length/\((flC k).length=b.length->flC k=b)/\szC k<=200:=by
 unfold jI at h;split at h
 ·cases h
 ·rename_i Y;split at h
  ·rename_i M;obtain⟨k',N,_,G,O,U⟩:=QX (b.length+1) [] b 0 I τ M;rw[N] at h;obtain rfl:k'=k:=by injection h
   have J:szC k'<=200:=by rw[<-YH];omega
   refine⟨?_,O,U,J⟩;have H:k'.all jx=ό:=by
    rw[G9];intro c d;have aa:4+c.2.2.1.length<=szC k':=by
     unfold szC;exact D9 _ _ (B6.2 ⟨c,d,rfl⟩)
    rw[zO];exact⟨(G c d).1,(G c d).2,τ⟩
   unfold vW;rw[ώ (by rw[H];simp),ώ τ]
  ·rename_i x;exact ϩ (ϯ Prod.snd h) x
def Cc {l:List qQ} {x:List Int} (h:vW l=(x,0)):x=flC l/\(∀c∈l,jx c=ό)/\szC l<=200:=by
 unfold vW at h;split at h
 ·cases h
 ·rename_i d;split at h
  ·cases h
  ·rename_i H;have G:flC l=x:=by injection h
   refine⟨G.symm, ?_,τ⟩;have:l.all jx=ό:=by
    cases y:l.all jx with
    | true=>rfl
    | false=>exact ϩ y d
   exact G9.1 this
section
open Go.RowKit Go.ChangeShapes
structure Blk where
 src:Int
 part:Int
 miss:Int
 high:Int
 jit:Int
 last:Int
 dly:Int
def Blk.tup (b:Blk):Int×Int×Int×Int×Int×Int×Int:=(b.src,b.part,b.miss,b.high,b.jit,b.last,b.dly)
def Blk.tup_inj {a b:Blk} (h:a.tup=b.tup):a=b:=by
 obtain⟨⟩:=a;obtain⟨⟩:=b;simp only[Blk.tup,C3] at h;simp[h]
instance:DecidableEq Blk:=λ_ _=>decidable_of_iff _ ⟨Blk.tup_inj,λh=>by rw[h]⟩
structure Inf where
 sec:Int
 frac:Int
 stamp:Int
 pkts:Int
 octs:Int
def Inf.tup (b:Inf):Int×Int×Int×Int×Int:=(b.sec,b.frac,b.stamp,b.pkts,b.octs)
def Inf.tup_inj {a b:Inf} (h:a.tup=b.tup):a=b:=by
 obtain⟨⟩:=a;obtain⟨⟩:=b;simp only[Inf.tup,C3] at h;simp[h]
instance:DecidableEq Inf:=λ_ _=>decidable_of_iff _ ⟨Inf.tup_inj,λh=>by rw[h]⟩
structure Rep where
 snd:Bool
 src:Int
 inf:Inf
 bl:List Blk
def Rep.tup (b:Rep):Bool×Int×Inf×List Blk:=(b.snd,b.src,b.inf,b.bl)
def Rep.tup_inj {a b:Rep} (h:a.tup=b.tup):a=b:=by
 obtain⟨⟩:=a;obtain⟨⟩:=b;simp only[Rep.tup,C3] at h;simp[h]
instance:DecidableEq Rep:=λ_ _=>decidable_of_iff _ ⟨Rep.tup_inj,λh=>by rw[h]⟩
structure QS (b:Blk):Prop where
 src:U32 b.src
 part:0<=b.part/\b.part<=255
 miss: -2147483648<=b.miss/\b.miss<=2147483647
 high:U32 b.high
 jit:U32 b.jit
 last:U32 b.last
 dly:U32 b.dly
structure Wv (b:Inf):Prop where
 sec:U32 b.sec
 frac:U32 b.frac
 stamp:U32 b.stamp
 pkts:U32 b.pkts
 octs:U32 b.octs
structure Zx (r:Rep):Prop where
 src:U32 r.src
 inf:Wv r.inf
 bl: ∀b∈r.bl,QS b
def Blk.cells (b:Blk):List Value:=[.int .u32 b.src,.int .u8 b.part,.int .i32 b.miss,.int .u32 b.high,.int .u32 b.jit,.int .u32 b.last,.int .u32 b.dly]
def Yj:qL Blk:=λ_ cs b=>cs=b.cells/\QS b
def Ca:QQ Yj:=λ_ _ _ _ _ h=>h
def Ei {n:Nat} {R:qL α} {L:List α} (h:SlP n R w v L) {p:α->Prop} (H: ∀cs y,R w cs y->p y): ∀b∈L,p b:=by
 obtain⟨_,_,_,_,d,_⟩:=h;intro b G;obtain⟨i,hi,rfl⟩:=A4.1 G;obtain⟨_,_,_,_,_,_,_,I⟩:=d i hi;exact H _ _ I
def Γm (x:Rep) (a:Option Addr) (b:Nat):Mm:=.o
instance (x:Rep) (a:Option Addr) (b:Nat):CoeDep Mm (Γm x a b) (List Value):=⟨[μ x.snd,ω x.src,ω x.inf.sec,ω x.inf.frac,ω x.inf.stamp,ω x.inf.pkts,ω x.inf.octs,δ a x.bl.length b]⟩
instance (x:Rep) (a:Option Addr) (b:Nat):CoeDep Mm (Γm x a b) (Array Value):=⟨((Γm x a b):List Value).toArray⟩
instance (x:Rep) (a:Option Addr) (b:Nat):CoeDep Mm (Γm x a b) Value:=⟨θ (Γm x a b)⟩
def Γn (s:Bool) (r:Int) (x:Inf) (a:Option Addr) (l:List Blk) (b:Nat):Mm:=.o
instance (s:Bool) (r:Int) (x:Inf) (a:Option Addr) (l:List Blk) (b:Nat):CoeDep Mm (Γn s r x a l b) (List Value):=⟨[μ s,ω r,ω x.sec,ω x.frac,ω x.stamp,ω x.pkts,ω x.octs,δ a l.length b]⟩
instance (s:Bool) (r:Int) (x:Inf) (a:Option Addr) (l:List Blk) (b:Nat):CoeDep Mm (Γn s r x a l b) (Array Value):=⟨((Γn s r x a l b):List Value).toArray⟩
instance (s:Bool) (r:Int) (x:Inf) (a:Option Addr) (l:List Blk) (b:Nat):CoeDep Mm (Γn s r x a l b) Value:=⟨θ (Γn s r x a l b)⟩
end
def Jj:Inf:=⟨0,0,0,0,0⟩
def Qh:Rep:=⟨ύ,0,Jj,[]⟩
def kD (b:Blk):Bool:=decide (-8388608<=b.miss/\b.miss<=8388607)
def vN (r:Rep):Bool:=(r.snd||decide (r.inf=Jj))&&r.bl.all kD&&decide (r.bl.length<=if r.snd then 7 else 8)
def JK (b:Blk):List Int:=qy b.src 4++(qy b.part 1++(qy (b.miss%4294967296) 3++(qy b.high 4++(qy b.jit 4++(qy b.last 4++qy b.dly 4)))))
def flR (l:List Blk):List Int:=l.flatMap JK
def Yf (i:Inf):List Int:=qy i.sec 4++(qy i.frac 4++(qy i.stamp 4++(qy i.pkts 4++qy i.octs 4)))
def Zu (r:Rep):List Int:=qy r.src 4++(if r.snd then Yf r.inf else [])
def Za (r:Rep):List Int:=Zu r++flR r.bl
def Qm (r:Rep):qQ×Int:=if vN r then (((r.bl.length:Int),(if r.snd then 200 else 201),Za r,()),0) else ((0,0,[],()),1)
def xP (s:RdS):Int:=num (tkB s.1 4)
def jA (s:RdS):Inf×RdS:=
 (⟨xP s,xP (tkS s 4),xP (tkS (tkS s 4) 4),xP (tkS (tkS (tkS s 4) 4) 4),xP (tkS (tkS (tkS (tkS s 4) 4) 4) 4)⟩,tkS (tkS (tkS (tkS (tkS s 4) 4) 4) 4) 4)
def qM (s:RdS):Blk×RdS:=
 (⟨xP s,num (tkB (tkS s 4).1 1),sgd (num (tkB (tkS (tkS s 4) 1).1 3)) 24,xP (tkS (tkS (tkS s 4) 1) 3),xP (tkS (tkS (tkS (tkS s 4) 1) 3) 4),xP (tkS (tkS (tkS (tkS (tkS s 4) 1) 3) 4) 4),xP (tkS (tkS (tkS (tkS (tkS (tkS s 4) 1) 3) 4) 4) 4)⟩,tkS (tkS (tkS (tkS (tkS (tkS (tkS s 4) 1) 3) 4) 4) 4) 4)
def js:Nat->RdS->List Blk×RdS
 | 0,s=>([],s)
 | n+1,s=>((qM s).1::(js n (qM s).2).1,(js n (qM s).2).2)
def wM (s:RdS):Int:=if ¬s.2=0 then s.2 else if 0<s.1.length then 4 else 0
def yZ (r:Rep) (s:RdS):Rep×Int:=if wM s=0 then (r,0) else (Qh,wM s)
def qG (c:qQ):Rep×Int:=
 if jx c=ύ then (Qh,1)
 else if c.2.1=200 then yZ ⟨ό,xP (c.2.2.1,0),(jA (tkS (c.2.2.1,0) 4)).1,(js c.1.toNat (jA (tkS (c.2.2.1,0) 4)).2).1⟩ (js c.1.toNat (jA (tkS (c.2.2.1,0) 4)).2).2
 else if c.2.1=201 then yZ ⟨ύ,xP (c.2.2.1,0),Jj,(js c.1.toNat (tkS (c.2.2.1,0) 4)).1⟩ (js c.1.toNat (tkS (c.2.2.1,0) 4)).2
 else (Qh,5)
def Oy (h:Jm s):(jA s).2=adv s 20:=by
 show tkS (tkS (tkS (tkS (tkS s (4:Nat)) (4:Nat)) (4:Nat)) (4:Nat)) (4:Nat)=_;rw[gz 4 h,xF,xF,xF,xF]
def Oz (h:Jm s):(qM s).2=adv s 24:=by
 show tkS (tkS (tkS (tkS (tkS (tkS (tkS s (4:Nat)) (1:Nat)) (3:Nat)) (4:Nat)) (4:Nat)) (4:Nat)) (4:Nat)=_;rw[gz 4 h,xF,xF,xF,xF,xF,xF]
def uB: ∀(n:Nat) {s:RdS},Jm s->(js n s).2=adv s (24* n)
 | 0,s,h=>by rw[Nat.mul_zero,Cu h];rfl
 | n+1,s,h=>by
  show (js n (qM s).2).2=_;rw[uB n (by rw[Oz h];exact vj _ _),Oz h,gG]
  congr 1
  omega
def uz: ∀(n:Nat) (s:RdS),(js n s).1.length=n
 | 0,_=>rfl
 | n+1,s=>by
  show ((qM s).1::(js n (qM s).2).1).length=_;rw[ϙ,uz n]
def QM (c:qQ):Nat:=4+(if c.2.1=200 then 20 else 0)+24* c.1.toNat
def II (l:List Int):wM (l,0)=if 0<l.length then 4 else 0:=by unfold wM;rw[ώ η]
def IH:wM ([],3)=3:=by decide
def Fo (r:Rep) (s:RdS):(yZ r s).2=wM s:=by
 unfold yZ;split
 ·rename_i h;exact h.symm
 ·rfl
def GJ (c:qQ) (H:jx c=ό) (d:c.2.1=200∨c.2.1=201):(qG c).2=if c.2.2.1.length<QM c then 3 else if QM c<c.2.2.1.length then 4 else 0:=by
 have I:Jm (c.2.2.1,0):=λh=>ϩ rfl h
 have key: ∀(r:Rep) (s:RdS) (k:Nat),s=adv (c.2.2.1,0) k->(yZ r s).2=if c.2.2.1.length<k then 3 else if k<c.2.2.1.length then 4 else 0:=by
  rintro r s k rfl;rw[Fo];unfold adv;simp only[A0];by_cases h:k<=c.2.2.1.length
  ·rw[ϐ h,II,ϣ];by_cases h2:k<c.2.2.1.length
   ·rw[ϐ τ,ώ τ,ϐ h2]
   ·rw[ώ τ,ώ τ,ώ h2]
  ·rw[ώ h,IH,ϐ τ]
 unfold qG;rw[ώ (by rw[H];simp)];have G:tkS (c.2.2.1,0) 4=adv (c.2.2.1,0) 4:=gz 4 I;rcases d with d | d
 ·rw[ϐ d];refine key _ _ _ ?_;rw[uB _ (by rw[Oy (by rw[G];exact vj _ _)];exact vj _ _),Oy (by rw[G];exact vj _ _),G,gG,gG];unfold QM;rw[ϐ d,M0]
 ·rw[ώ (by rw[d];decide),ϐ d];refine key _ _ _ ?_;rw[uB _ (by rw[G];exact vj _ _),G,gG];unfold QM;rw[ώ (by rw[d];decide),G7]
def xd (x:Int) (d:U32 x) (r:List Int):xP (qy x 4++r,0)=x/\tkS (qy x 4++r,0) 4=(r,0):=by
 obtain⟨G,H⟩:=JY x 4 ζ r;refine⟨?_,G⟩;unfold xP;simp only;rw[show tkB (qy x 4++r) 4=qy x 4 from H];exact Xi x 4 d.1 ζ (by have:=d.2;show x<4294967296;omega)
def YX (i:Inf) (h:Wv i) (r:List Int):jA (Yf i++r,0)=(i,(r,0)):=by
 unfold Yf;simp only[ϧ];obtain⟨d,H⟩:=xd i.sec h.sec (qy i.frac 4++(qy i.stamp 4++(qy i.pkts 4++(qy i.octs 4++r))));obtain⟨G,I⟩:=xd i.frac h.frac (qy i.stamp 4++(qy i.pkts 4++(qy i.octs 4++r)));obtain⟨a3,J⟩:=xd i.stamp h.stamp (qy i.pkts 4++(qy i.octs 4++r));obtain⟨a4,M⟩:=xd i.pkts h.pkts (qy i.octs 4++r);obtain⟨a5,N⟩:=xd i.octs h.octs r;unfold jA;simp only[d,H,G,I,a3,J,a4,M,a5,N]
def LT (x:Int) (h: -8388608<=x/\x<=8388607):sgd (x%16777216) 24=x:=by
 have d:two 24=16777216:=by decide
 have G:two (24-1)=8388608:=by decide
 unfold sgd;rw[d,G,ώ ζ];split<;>omega
def YZ (b:Blk) (h:QS b) (ac:kD b=ό) (r:List Int):qM (JK b++r,0)=(b,(r,0)):=by
 have ad: -8388608<=b.miss/\b.miss<=8388607:=by simpa [kD] using ac
 unfold JK;simp only[ϧ];obtain⟨J,O⟩:=xd b.src h.src (qy b.part 1++(qy (b.miss%4294967296) 3++(qy b.high 4++(qy b.jit 4++(qy b.last 4++(qy b.dly 4++r))))));obtain⟨G,d⟩:=JY b.part 1 ζ (qy (b.miss%4294967296) 3++(qy b.high 4++(qy b.jit 4++(qy b.last 4++(qy b.dly 4++r)))));obtain⟨H,a3⟩:=JY (b.miss%4294967296) 3 ζ (qy b.high 4++(qy b.jit 4++(qy b.last 4++(qy b.dly 4++r))));obtain⟨a4,U⟩:=xd b.high h.high (qy b.jit 4++(qy b.last 4++(qy b.dly 4++r)));obtain⟨a5,Y⟩:=xd b.jit h.jit (qy b.last 4++(qy b.dly 4++r));obtain⟨M,aa⟩:=xd b.last h.last (qy b.dly 4++r);obtain⟨N,ab⟩:=xd b.dly h.dly r;have n2:num (qy b.part (1:Nat))=b.part:=Xi _ 1 h.part.1 ζ (by have:=h.part.2;show b.part<256;omega);have I:sgd (num (qy (b.miss%4294967296) (3:Nat))) 24=b.miss:=by
  have e:qy (b.miss%4294967296) (3:Nat)=qy (b.miss%4294967296%16777216) (3:Nat):=(QH _).symm;rw[e,Xi _ 3 τ ζ (by show _<16777216;omega),show b.miss%4294967296%16777216=b.miss%16777216 by omega];exact LT _ ad
 unfold qM;have G:tkS (qy b.part 1++(qy (b.miss%4294967296) 3++(qy b.high 4++(qy b.jit 4++(qy b.last 4++(qy b.dly 4++r))))),0) 1=(qy (b.miss%4294967296) 3++(qy b.high 4++(qy b.jit 4++(qy b.last 4++(qy b.dly 4++r)))),0):=G;have d:tkB (qy b.part 1++(qy (b.miss%4294967296) 3++(qy b.high 4++(qy b.jit 4++(qy b.last 4++(qy b.dly 4++r)))))) 1=qy b.part 1:=d;have H:tkS (qy (b.miss%4294967296) 3++(qy b.high 4++(qy b.jit 4++(qy b.last 4++(qy b.dly 4++r)))),0) 3=(qy b.high 4++(qy b.jit 4++(qy b.last 4++(qy b.dly 4++r))),0):=H;have a3:tkB (qy (b.miss%4294967296) 3++(qy b.high 4++(qy b.jit 4++(qy b.last 4++(qy b.dly 4++r))))) 3=qy (b.miss%4294967296) 3:=a3;have n2:num (qy b.part 1)=b.part:=n2;have I:sgd (num (qy (b.miss%4294967296) 3)) 24=b.miss:=I;simp only[J,O,d,G,a3,H,a4,U,a5,Y,M,aa,N,ab,n2,I]
def Xm (b:Blk) (l:List Blk):flR (b::l)=JK b++flR l:=rfl
def uA: ∀(l:List Blk) (r:List Int),(∀b∈l,QS b/\kD b=ό)->js l.length (flR l++r,0)=(l,(r,0))
 | [],r,_=>rfl
 | b::l,r,h=>by
  have d:=h b η;rw[Xm,ϧ];show ((qM (JK b++(flR l++r),0)).1::(js l.length (qM (JK b++(flR l++r),0)).2).1,(js l.length (qM (JK b++(flR l++r),0)).2).2)=_;rw[YZ b d.1 d.2,uA l r (λc G=>h c (by simp[G]))]
def kM (r:Rep):vN r=ό↔(r.snd=ύ->r.inf=Jj)/\(∀b∈r.bl,kD b=ό)/\r.bl.length<=if r.snd then 7 else 8:=by
 unfold vN;simp only[B9,R5,C4,G9];constructor
 ·rintro⟨⟨d,G⟩,H⟩;refine⟨λh=> ?_,G,H⟩;rcases d with d | d
  ·rw[h] at d;cases d
  ·exact d
 ·rintro⟨d,G,H⟩;refine⟨⟨?_,G⟩,H⟩;cases hs:r.snd with
  | true=>exact ϒ rfl
  | false=>exact ϔ (d hs)
def VW (b:Blk):(JK b).length=24:=by
 unfold JK;simp only[Ϗ,qK _ _ (show (0:Int)<=4/\(4:Int)<=8 by decide),qK _ _ (show (0:Int)<=1/\(1:Int)<=8 by decide),qK _ _ (show (0:Int)<=3/\(3:Int)<=8 by decide)]
 decide
def VN (i:Inf):(Yf i).length=20:=by
 unfold Yf;simp only[Ϗ,qK _ _ (show (0:Int)<=4/\(4:Int)<=8 by decide)]
 decide
def YG (l:List Blk):(flR l).length=24* l.length:=by
 induction l with
 | nil=>rfl
 | cons b l ih=>rw[Xm,Ϗ,VW,ih,ϙ];omega
def Bc (r:Rep):(Za r).length=4+(if r.snd then 20 else 0)+24* r.bl.length:=by
 unfold Za Zu;rw[Ϗ,Ϗ,YG,qK _ _ ζ];cases r.snd with
 | true=>simp[VN]
 | false=>simp
def kK {r:Rep} (h:vN r=ό):Qm r=(((r.bl.length:Int),(if r.snd then 200 else 201),Za r,()),0):=by unfold Qm;rw[ϐ h]
def YO {r:Rep} (h:vN r=ό):jx (Qm r).1=ό:=by
 obtain⟨_,_,d⟩:=(kM r).1 h;rw[kK h,zO];have G:=Bc r;simp only;cases hs:r.snd with
 | true=>rw[hs] at d G;simp at d G;omega
 | false=>rw[hs] at d G;simp at d G;omega
def YW {r:Rep} (G:Zx r) (h:vN r=ό):qG (Qm r).1=(r,0):=by
 have O:=YO h;obtain⟨M,N,U⟩:=(kM r).1 h;unfold qG;rw[ώ (by rw[O];simp),kK h];obtain⟨s,src,i,bl⟩:=r;simp only at *;have d: ∀b∈bl,QS b/\kD b=ό:=λb d=>⟨G.bl b d,N b d⟩
 have J:yZ ⟨s,src,i,bl⟩ ([],0)=(⟨s,src,i,bl⟩,0):=rfl;cases s with
 | true=>
  have e:Za ⟨ό,src,i,bl⟩=qy src 4++(Yf i++(flR bl++[])):=by unfold Za Zu;simp[ϧ]
  rw[e];obtain⟨H,I⟩:=xd src G.src (Yf i++(flR bl++[]));simp only[A0,H,I,YX i G.inf,ο,uA bl [] d,J]
 | false=>
  have hi:i=Jj:=M rfl;subst hi;have e:Za ⟨ύ,src,Jj,bl⟩=qy src 4++(flR bl++[]):=by unfold Za Zu;simp[ϧ]
  rw[e];obtain⟨H,I⟩:=xd src G.src (flR bl++[]);simp only[H,I,ο,uA bl [] d];exact J
abbrev U8 (n:Int):Prop:=0<=n/\n<=255
def ahd (a b:Int):Int:=(b-a+32768)%65536-32768
def tb (m:Int) (k:Nat):Bool:=m.toNat.testBit k
def prN (p:Int×Int):List Int:=p.1::((List.range 16).filter (tb p.2)).map λk:Nat=>(p.1+k+1)%65536
def prJ (l:List (Int×Int)) (n:Int):Prop:= ¬l=[]/\1<=ahd (l.getLastD (0,0)).1 n/\ahd (l.getLastD (0,0)).1 n<=16
instance (l:List (Int×Int)) (n:Int):Decidable (prJ l n):=by unfold prJ;infer_instance
def WM (p:Int×Int):1<=(prN p).length/\(prN p).length<=17:=by
 unfold prN;rw[ϙ,A6];have:=C8 (tb p.2) (List.range 16);rw[List.length_range] at this;omega
def Kn (h:l≠[]):l.getLastD 0=l.getD (l.length-1) 0:=by
 rw[List.getLastD_eq_getLast?,List.getLast?_eq_getElem?,ϑ]
structure Msg where
 kind:Int
 snd:Int
 med:Int
 asks:List (Int×Int)
 lost:List Int
def Msg.tup (b:Msg):Int×Int×Int×List (Int×Int)×List Int:=(b.kind,b.snd,b.med,b.asks,b.lost)
def Msg.tup_inj {a b:Msg} (h:a.tup=b.tup):a=b:=by
 obtain⟨⟩:=a;obtain⟨⟩:=b;simp only[Msg.tup,C3] at h;simp[h]
instance:DecidableEq Msg:=λ_ _=>decidable_of_iff _ ⟨Msg.tup_inj,λh=>by rw[h]⟩
structure Zz (m:Msg):Prop where
 snd:U32 m.snd
 med:U32 m.med
 asks: ∀a∈m.asks,U32 a.1/\U8 a.2
 lost: ∀x∈m.lost,U16 x
def JI:Msg:=⟨0,0,0,[],[]⟩
def gC:Zz JI:=⟨ζ,ζ,(λa h=>by cases h),(λa h=>by cases h)⟩
def Zv (k:Int):Int×Int:=if k=1 then (206,1) else if k=2 then (206,4) else (205,1)
def zy (c:qQ):Int:=if c.2.1=206/\c.1=1 then 1 else if c.2.1=206/\c.1=4 then 2 else if c.2.1=205/\c.1=1 then 3 else 0
def wu (s:RdS):(Int×Int)×RdS:=((xP s,num (tkB (tkS s 4).1 1)),tkS (tkS (tkS s 4) 1) 3)
def jm:Nat->List (Int×Int)->RdS->List (Int×Int)×RdS
 | 0,acc,s=>(acc,s)
 | n+1,acc,s=>if s.1=[] then (acc,s) else jm n (acc++[(wu s).1]) (wu s).2
def prS (s:RdS):(Int×Int)×RdS:=((num (tkB s.1 2),num (tkB (tkS s 2).1 2)),tkS (tkS s 2) 2)
def gm (acc:List Int) (p:Int×Int) (s:RdS):RdS:=if ¬acc=[]/\ ¬0<ahd (acc.getLastD 0) p.1 then wrS s 2 else s
def jc:Nat->List Int->RdS->List Int×RdS
 | 0,acc,s=>(acc,s)
 | n+1,acc,s=>if s.1=[] then (acc,s) else jc n (acc++prN (prS s).1) (gm acc (prS s).1 (prS s).2)
def zz (b:Int) (s:RdS):RdS:=if ¬b=0∨s.1.length=0∨ ¬s.1.length%8=0 then wrS s 2 else s
def xK (s:RdS):RdS:=if s.1.length=0 then wrS s 2 else s
def vX (m:Msg) (s:RdS):Msg×Int:=if wM s=0 then (m,0) else (JI,wM s)
def vD (k a b:Int) (s:RdS):Msg×Int:=
 if k=2 then vX ⟨2,a,b,(jm s.1.length [] (zz b s)).1,[]⟩ (jm s.1.length [] (zz b s)).2
 else if k=3 then vX ⟨3,a,b,[],(jc s.1.length [] (xK s)).1⟩ (jc s.1.length [] (xK s)).2
 else vX ⟨k,a,b,[],[]⟩ s
def qJ (c:qQ):Msg×Int:=
 if jx c=ύ then (JI,1)
 else if zy c=0 then (JI,5)
 else vD (zy c) (xP (c.2.2.1,0)) (xP (tkS (c.2.2.1,0) 4)) (tkS (tkS (c.2.2.1,0) 4) 4)
def zE (n:Nat) (acc:List (Int×Int)) (e:Int):jm n acc ([],e)=(acc,([],e)):=by
 cases n with
 | zero=>rfl
 | succ n=>unfold jm;rw[ϐ rfl]
def wE (n:Nat) (acc:List Int) (e:Int):jc n acc ([],e)=(acc,([],e)):=by
 cases n with
 | zero=>rfl
 | succ n=>unfold jc;rw[ϐ rfl]
def WR (h:Byt s.1):U16 (num (tkB s.1 2)):=by
 have:=zv (tkB s.1 2) 2 (jL h 2) (zh s.1 2 ζ) ζ;exact⟨this.1,τ⟩
def Iq (h:Byt s.1):U8 (num (tkB s.1 1)):=by
 have:=zv (tkB s.1 1) 1 (jL h 1) (zh s.1 1 ζ) ζ;exact⟨this.1,τ⟩
def Jx (h:Byt s.1):U32 (xP s):=by
 have:=zv (tkB s.1 4) 4 (jL h 4) (zh s.1 4 ζ) ζ;exact⟨this.1,by show num (tkB s.1 4)<=4294967295;omega⟩
def Gc (h:Byt s.1):U32 (wu s).1.1/\U8 (wu s).1.2/\Byt (wu s).2.1:=⟨Jx h,Iq (jK h 4),jK (jK (jK h 4) 1) 3⟩
def DZ (h:Byt s.1):U16 (prS s).1.1/\U16 (prS s).1.2/\Byt (prS s).2.1:=⟨WR h,WR (jK h 2),jK (jK h 2) 2⟩
def BM {acc:List Int} (h:Byt s.1):Byt (gm acc p s).1:=by
 unfold gm;split
 ·exact gu h 2
 ·exact h
def Jw (h:U16 p.1): ∀x∈prN p,U16 x:=by
 intro x d;unfold prN at d;rcases ϰ.1 d with rfl | d
 ·exact h
 ·obtain⟨k,_,rfl⟩:=B6.1 d;constructor<;>omega
def gY: ∀(n:Nat) (acc:List (Int×Int)) (s:RdS),Byt s.1->(∀a∈acc,U32 a.1/\U8 a.2)-> ∀a∈(jm n acc s).1,U32 a.1/\U8 a.2
 | 0,_,_,_,h=>h
 | n+1,acc,s,hb,h=>by
  unfold jm;split
  ·exact h
  ·obtain⟨G,H,a3⟩:=Gc hb;refine gY n _ _ a3 λa d=> ?_
   rcases ϡ.1 d with d | d
   ·exact h a d
   ·rw[Δ] at d;subst d;exact⟨G,H⟩
def gX: ∀(n:Nat) (acc:List Int) (s:RdS),Byt s.1->(∀a∈acc,U16 a)-> ∀a∈(jc n acc s).1,U16 a
 | 0,_,_,_,h=>h
 | n+1,acc,s,hb,h=>by
  unfold jc;split
  ·exact h
  ·obtain⟨G,H,a3⟩:=DZ hb;refine gX n _ _ (BM a3) λa d=> ?_
   rcases ϡ.1 d with d | d
   ·exact h a d
   ·exact Jw G a d
def QF {m:Msg} (h:Zz m):Zz (vX m s).1:=by
 unfold vX;split
 ·exact h
 ·exact gC
def Dk {b:Int} (h:Byt s.1):Byt (zz b s).1:=by
 unfold zz;split
 ·exact gu h 2
 ·exact h
def Pt (h:Byt s.1):Byt (xK s).1:=by
 unfold xK;split
 ·exact gu h 2
 ·exact h
def Bb {k a b:Int} (I:Byt s.1) (G:U32 a) (H:U32 b):Zz (vD k a b s).1:=by
 unfold vD;split
 ·exact QF ⟨G,H,gY _ _ _ (Dk I) (λx d=>by cases d),(λx d=>by cases d)⟩
 ·split
  ·exact QF ⟨G,H,(λx d=>by cases d),gX _ _ _ (Pt I) (λx d=>by cases d)⟩
  ·exact QF ⟨G,H,(λx d=>by cases d),(λx d=>by cases d)⟩
def Bg {c:qQ} (G:xk c):Zz (qJ c).1:=by
 have d:Byt ((c.2.2.1,0):RdS).1:=G.byt;unfold qJ;split
 ·exact gC
 ·split
  ·exact gC
  ·exact Bb (jK (jK d 4) 4) (Jx d) (Jx (jK d 4))
def UP {c:qQ} (h: ¬zy c=0):Zv (zy c)=(c.2.1,c.1)/\(zy c=1∨zy c=2∨zy c=3):=by
 unfold zy at h ⊢;unfold Zv;split
 ·rename_i e;exact⟨by rw[e.1,e.2];rfl,η⟩
 ·split
  ·rename_i e;exact⟨by rw[e.1,e.2];rfl,η⟩
  ·split
   ·rename_i e;exact⟨by rw[e.1,e.2];rfl,η⟩
   ·rename_i d G H;rw[ώ d,ώ G,ώ H] at h;exact ϩ rfl h
def Γp (x:Msg) (a:Option Addr) (b:Nat) (c:Option Addr) (d:Nat):Mm:=.o
instance (x:Msg) (a:Option Addr) (b:Nat) (c:Option Addr) (d:Nat):CoeDep Mm (Γp x a b c d) (List Value):=⟨[ι x.kind,ω x.snd,ω x.med,δ a x.asks.length b,δ c x.lost.length d]⟩
instance (x:Msg) (a:Option Addr) (b:Nat) (c:Option Addr) (d:Nat):CoeDep Mm (Γp x a b c d) (Array Value):=⟨((Γp x a b c d):List Value).toArray⟩
instance (x:Msg) (a:Option Addr) (b:Nat) (c:Option Addr) (d:Nat):CoeDep Mm (Γp x a b c d) Value:=⟨θ (Γp x a b c d)⟩
def UR (M:Byt L) (h:20<=L.length): ∃i r,L=Yf i++r/\Wv i/\Byt r:=by
 obtain⟨ac,ah,rfl,O,d⟩:=xv M τ;rw[Ϗ,qK _ _ ζ] at h;obtain⟨ad,ai,rfl,U,G⟩:=xv d (by simp at h;omega);rw[Ϗ,qK _ _ ζ] at h;obtain⟨ae,aj,rfl,Y,H⟩:=xv G (by simp at h;omega);rw[Ϗ,qK _ _ ζ] at h;obtain⟨af,ak,rfl,aa,I⟩:=xv H (by simp at h;omega);rw[Ϗ,qK _ _ ζ] at h;obtain⟨ag,N,rfl,ab,J⟩:=xv I (by simp at h;omega);exact⟨⟨ac,ad,ae,af,ag⟩,N,by unfold Yf;simp only[ϧ],⟨O,U,Y,aa,ab⟩,J⟩
def U4 (ae:Byt L) (h:24<=L.length): ∃b r,L=JK b++r/\QS b/\kD b=ό/\Byt r:=by
 obtain⟨ao,aw,rfl,aj,J⟩:=xv ae τ;rw[Ϗ,qK _ _ ζ] at h;obtain⟨I,ax,rfl,ah,G,M⟩:=wU 1 ζ J (by simp at h;omega);rw[Ϗ,qK _ _ ζ] at h;obtain⟨d,ay,rfl,av,H,N⟩:=wU 3 ζ M (by simp at h;omega);rw[Ϗ,qK _ _ ζ] at h;obtain⟨ap,az,rfl,ak,O⟩:=xv N (by simp at h;omega);rw[Ϗ,qK _ _ ζ] at h;obtain⟨aq,aA,rfl,al,U⟩:=xv O (by simp at h;omega);rw[Ϗ,qK _ _ ζ] at h;obtain⟨ar,aB,rfl,am,Y⟩:=xv U (by simp at h;omega);rw[Ϗ,qK _ _ ζ] at h;obtain⟨au,ai,rfl,an,aa⟩:=xv Y (by simp at h;omega);have G:I<256:=G;have H:d<16777216:=H;have ag:=KR d 24 ζ ζ;have af:=Ej d 24 ζ ζ;have ab:two 24=16777216:=by decide
 have ac:two (24-1)=8388608:=by decide
 rw[ac] at ag;rw[ab] at af;have ad:qy (sgd d 24%4294967296) 3=qy d 3:=by
  rw[<-QH,<-QH d]
  congr 1
  omega
 refine⟨⟨ao,I,sgd d 24,ap,aq,ar,au⟩,ai, ?_,⟨aj,⟨ah,by simp only;omega⟩,⟨by simp only;omega,by simp only;omega⟩,ak,al,am,an⟩, ?_,aa⟩
 ·unfold JK;simp only[ϧ,ad];rfl
 ·unfold kD;simp only[C4];omega
def wX: ∀(n:Nat) {L:List Int},Byt L->24* n<=L.length-> ∃l r,l.length=n/\L=flR l++r/\(∀b∈l,QS b/\kD b=ό)/\Byt r
 | 0,L,hb,_=>⟨[],L,rfl,rfl,(λb h=>by cases h),hb⟩
 | n+1,L,hb,h=>by
  obtain⟨b,r,rfl,M,N,J⟩:=U4 hb τ;rw[Ϗ,VW] at h;obtain⟨l,O,G,rfl,H,I⟩:=wX n J τ;refine⟨b::l,O,by rw[ϙ,G],by rw[Xm,ϧ],λc d=> ?_,I⟩;simp at d;rcases d with rfl | d
  ·exact⟨M,N⟩
  ·exact H c d
def WY:Wv Jj:=⟨ζ,ζ,ζ,ζ,ζ⟩
def Zk {c:qQ} (ag:xk c) (h:(qG c).2=0): ∃r,Zx r/\vN r=ό/\Qm r=(c,0):=by
 have Y:jx c=ό:=by
  cases x:jx c with
  | true=>rfl
  | false=>unfold qG at h;rw[ϐ x] at h;cases h
 have aa:c.2.1=200∨c.2.1=201:=by
  by_cases h1:c.2.1=200
  ·exact ϒ h1
  ·by_cases h2:c.2.1=201
   ·exact ϔ h2
   ·unfold qG at h;rw[ώ (by rw[Y];simp),ώ h1,ώ h2] at h;cases h
 have J:=GJ c Y aa;rw[h] at J;have G:c.2.2.1.length=QM c:=by
  by_cases h1:c.2.2.1.length<QM c
  ·rw[ϐ h1] at J;cases J
  ·by_cases h2:QM c<c.2.2.1.length
   ·rw[ώ h1,ϐ h2] at J;cases J
   ·omega
 obtain⟨ak,al,H⟩:=(zO c).1 Y;obtain⟨k,t,B,⟨⟩⟩:=c;obtain⟨⟨ah,ai⟩,_,d⟩:=ag;simp only at G ak al H ah ai d aa;unfold QM at G;simp only at G;obtain⟨N,an,rfl,ad,ac⟩:=xv d τ;rw[Ϗ,qK _ _ ζ] at G H;have af:(4:Int).toNat=4:=rfl;rw[af] at G H;rcases aa with rfl | rfl
 ·rw[ϐ rfl] at G;obtain⟨i,ao,rfl,am,ae⟩:=UR ac τ;rw[Ϗ,VN] at G H;obtain⟨l,ab,aj,rfl,M,_⟩:=wX k.toNat ae τ;rw[Ϗ,YG] at G H;have U:ab=[]:=Ϧ τ;subst U;have I:vN ⟨ό,N,i,l⟩=ό:=(kM _).2 ⟨(λh=>by cases h),λb d=>(M b d).2,by simp;omega⟩;refine⟨⟨ό,N,i,l⟩,⟨ad,am,λb d=>(M b d).1⟩,I, ?_⟩;rw[kK I];have O:((l.length:Int))=k:=by omega
  simp only[O,A0]
  congr 4
  unfold Za Zu;simp
 ·rw[ώ ζ] at G;obtain⟨l,ab,aj,rfl,M,_⟩:=wX k.toNat ac τ;rw[Ϗ,YG] at G H;have U:ab=[]:=Ϧ τ;subst U;have I:vN ⟨ύ,N,Jj,l⟩=ό:=(kM _).2 ⟨λh=>rfl,λb d=>(M b d).2,by simp;omega⟩;refine⟨⟨ύ,N,Jj,l⟩,⟨ad,WY,λb d=>(M b d).1⟩,I, ?_⟩;rw[kK I];have O:((l.length:Int))=k:=by omega
  simp only[O];unfold Za Zu;simp
def YP {c:qQ} {r:Rep} (J:xk c) (h:qG c=(r,0)):Qm r=(c,0)/\Zx r/\vN r=ό:=by
 obtain⟨M,d,G,H⟩:=Zk J (by rw[h]);have I:=YW d G;rw[H,h] at I;obtain rfl:r=M:=by injection I
 exact⟨H,d,G⟩
structure Itm where
 kind:Int
 rep:Rep
 msg:Msg
 oth:qQ
instance:DecidableEq Itm:=λa b=>decidable_of_iff (a.kind=b.kind/\a.rep=b.rep/\a.msg=b.msg/\(a.oth.1=b.oth.1/\a.oth.2.1=b.oth.2.1/\a.oth.2.2.1=b.oth.2.2.1)) (by
 obtain⟨ka,ra,ma,o1,o2,o3,⟨⟩⟩:=a;obtain⟨kb,rb,mb,p1,p2,p3,⟨⟩⟩:=b
 simp)
structure Wu (x:Itm):Prop where
 rep:Zx x.rep
 msg:Zz x.msg
 oth:xk x.oth
def Gj:qQ:=(0,0,[],())
def wL:Itm:=⟨0,Qh,JI,Gj⟩
def vg:List Int->Int
 | []=>0
 | e::l=>if e=0 then vg l else e
def qv (c:qQ):Itm×Int:=
 if c.2.1=200∨c.2.1=201 then (⟨1,(qG c).1,JI,Gj⟩,(qG c).2)
 else if (qJ c).2=5 then (⟨3,Qh,JI,c⟩,0) else (⟨2,Qh,(qJ c).1,Gj⟩,(qJ c).2)
def zx (b:List Int):List Itm×Int:=
 if (jI b).2=0 then (if vg ((jI b).1.map λc=>(qv c).2)=0 then ((jI b).1.map λc=>(qv c).1,0) else ([],vg ((jI b).1.map λc=>(qv c).2))) else ([],(jI b).2)
def WJ:Zx Qh:=⟨ζ,by constructor<;>decide,(λb h=>by cases h)⟩
def WQ:xk Gj:=⟨ζ,ζ,Byt.of_all (l:=[]) rfl⟩
def Γo (x:Itm) (a:Option Addr) (b:Nat) (c:Option Addr) (d:Nat) (e:Option Addr) (f:Nat) (g:Option Addr) (h:Nat):Mm:=.o
instance (x:Itm) (a:Option Addr) (b:Nat) (c:Option Addr) (d:Nat) (e:Option Addr) (f:Nat) (g:Option Addr) (h:Nat):CoeDep Mm (Γo x a b c d e f g h) (List Value):=⟨[ι x.kind,μ x.rep.snd,ω x.rep.src,ω x.rep.inf.sec,ω x.rep.inf.frac,ω x.rep.inf.stamp,ω x.rep.inf.pkts,ω x.rep.inf.octs,δ a x.rep.bl.length b,ι x.msg.kind,ω x.msg.snd,ω x.msg.med,δ c x.msg.asks.length d,δ e x.msg.lost.length f,υ x.oth.1,υ x.oth.2.1,δ g x.oth.2.2.1.length h]⟩
instance (x:Itm) (a:Option Addr) (b:Nat) (c:Option Addr) (d:Nat) (e:Option Addr) (f:Nat) (g:Option Addr) (h:Nat):CoeDep Mm (Γo x a b c d e f g h) (Array Value):=⟨((Γo x a b c d e f g h):List Value).toArray⟩
instance (x:Itm) (a:Option Addr) (b:Nat) (c:Option Addr) (d:Nat) (e:Option Addr) (f:Nat) (g:Option Addr) (h:Nat):CoeDep Mm (Γo x a b c d e f g h) Value:=⟨θ (Γo x a b c d e f g h)⟩
def Vf:qL (Int×Int):=λ_ cs a=>cs=[.int .u32 a.1,.int .u8 a.2]/\U32 a.1/\U8 a.2
def Cb:QQ Vf:=λ_ _ _ _ _ h=>h
def Au (q:Int):IntKind.i16.wrap q=(q+32768)%65536-32768:=by
 simp only[IntKind.wrap,IntKind.bits,IntKind.signed];simp;split<;>omega
def Ct (a b:Int):wrap64 (IntKind.i16.wrap (IntKind.u16.wrap (b-a)))=ahd a b:=by
 rw[Au,IntKind.wrap_u16];unfold ahd wrap64;omega
def Dl (a b:Int) (w:World) (d:U16 a) (G:U16 b):
  Calls prog 282 #[φ a,φ b] w λe w'=>e= .returned (ι (ahd a b))/\w=w':=by
 obtain⟨a0,H⟩:=d;obtain⟨I,J⟩:=G
 go_enter func282,ntmps282
 go_wp2;go_ret;refine⟨xV ?_,rfl⟩;exact Ct a b
def Yd (a b:Int) (w:World) (d:U16 a) (G:U16 b):
  Calls prog 244 #[φ a,φ b] w λe w'=>e= .returned (ι (ahd a b))/\w=w':=by
 go_enter func244,ntmps244
 go_wp2_with (go_at_call 282;(go_call Dl a b _ d G as e w1 ⟨rfl,rfl⟩))
 go_ret;exact⟨rfl,rfl⟩
def Dx (a b:Int) (w:World) (d:U16 a) (G:U16 b):
  Calls prog 329 #[φ a,φ b] w λe w'=>e= .returned (μ (decide (0<ahd a b)))/\w=w':=by
 go_enter func329,ntmps329
 go_wp2_with (go_at_call 244;(go_call Yd a b _ d G as e w1 ⟨rfl,rfl⟩))
 go_ret;exact⟨rfl,rfl⟩
def Xu (k:Int) (w:World):
  Calls prog 318 #[ι k] w λe w'=>e= .returned (.tuple #[υ (Zv k).1,υ (Zv k).2])/\w=w':=by
 by_cases h1:k=1
 ·subst h1
  go_enter func318,ntmps318
  go_wp2
  go_ret2
  exact⟨rfl,rfl⟩
 by_cases h2:k=2
 ·subst h2
  go_enter func318,ntmps318
  go_wp2
  go_ret2
  exact⟨rfl,rfl⟩
 have d:Zv k=(205,1):=by unfold Zv;rw[ώ h1,ώ h2]
 have G:=κ d;have H:(k==1)=ύ:=by simpa using h1
 have I:(k==2)=ύ:=by simpa using h2
 clear d h1 h2
 go_enter func318,ntmps318
 go_wp2
 go_ret2
 exact⟨by rw[G.o];rfl,rfl⟩
end Go.Proofs.YtlmllmonabafjaaGreatDoor
