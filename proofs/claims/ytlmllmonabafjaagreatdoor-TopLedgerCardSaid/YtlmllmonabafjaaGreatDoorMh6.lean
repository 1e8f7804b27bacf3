/- x -/
import Derived.Test.YtlmllmonabafjaaGreatDoorMh5
import Derived.Maps.RangeRun
import Derived.ChangeMaps5
import Derived.Maps.OwnSet
import Derived.WalkMore
import Derived.ScopeJumps
namespace Go.Proofs.YtlmllmonabafjaaGreatDoor
open Option renaming some->ϊ,none->ϋ
open Bool renaming true->ό,false->ύ
open Go.Value renaming bool->μ,slice->δ,pointer->π,agg->θ
open Go.IntKind renaming i64->ι,u8->υ,u16->φ,u32->ω,i32->χ,u64->ψ
open _root_.Go.Proofs.Tryz
set_option linter.all false
set_option maxHeartbeats 8000000
set_option maxRecDepth 100000
open Go.RowKit
open Go.RowKit Go.Lib
variable {w w':World} {s:RdS} {C S:Nat->Prop} {b l A L:List Int} {v vb v':Value} {is:List Nat} {R c B T a r i:Nat} {d:TypeId} {P:Program} {q:IntKind} {cs:Array Value} {xs:List Value} {o:Obj} {n e:Int} {p:Int×Int} {h:Hd} {α:Type}
def Bl {w10 H:World} {b:Jb} {I:Option Addr} {cap:Nat} (M:xZ w10 R (δ I b.holds.length cap) b) (U:ql w w10) (ac:R<w.heap.size)
  (J:jt (λk=>(δ I b.holds.length cap).ownBlock=ϊ k) w10 H) (O:zT H (R+1) v' (ue b.holds h)) (ab:v'.ownBlock=(δ I b.holds.length cap).ownBlock∨ ∃g,v'.ownBlock=ϊ g/\w.heap.size<=g):
  NQ w (H.setCell ⟨R,2,ϋ⟩ v') R (δ I b.holds.length cap) v' {b with holds:=ue b.holds h}:=by
 have Y:(δ I b.holds.length cap).ownBlock≠ϊ R:=λe=>by have:=(M.row.own_ge e).1;omega
 have aa:v'.ownBlock≠ϊ R:=λe=>by have:=(O.own_ge e).1;omega
 have N:jt (λk=>k=R) H (H.setCell ⟨R,2,ϋ⟩ v'):=(jt.refl (λk=>k=R) H).set (p:=⟨R,2,ϋ⟩) rfl v';refine⟨⟨qB (qp (J.blk M.blk Y) 2 v') rfl,O.away N (λk d x=>aa (by rw[<-x];exact d))⟩, ?_,ab⟩;exact jt.old U ((J.mono λk d=>ϕ d).trans (N.mono λk d=>ϑ d)) λk d=>ϑ d
def CG (b:Jb) (ok:JOK b) (R:Nat) (v:Value) (n d x:Int) (bc:xz n) (w:World) (ab:xZ w R v b):
  Calls prog 194 #[γ R,ι n,ι d,ι x] w λbC w'=>bC= .returned (ι (jP b n d x).2)/\ ∃v',NQ w w' R v v' (jP b n d x).1:=by
 have bp:Hid (b.room<=b.holds.length∨b.holds.length<=8):=κ (by have:=ok.fits;have:=ok.room;omega);have bF:=uY bc;have bG:=uY ok.hi;obtain⟨bR,bS⟩:=ok.hi;obtain⟨bV,bW⟩:=bc;have bu:=κ ok.bits;have ac:=κ (ab.on (ql.alloc w (.cells #[ι n] 2)));have aM:=qj w (.cells #[ι n] 2);have aT:=κ aM;have ax:=ux b R v _ ac.o ok.hi;have aS:=κ (ql.alloc w (.cells #[ι n] 2));have am: ∀args w,(callFunc 246 args).run prog w= .ok (.enter 246 args) w:=λargs w=>by kernel_rfl
 have bn: ∀args w,(callFunc 247 args).run prog w= .ok (.enter 247 args) w:=λargs w=>by kernel_rfl
 have ao:Hid (ZA 246 #[γ w.heap.size] (λk=>k.1==n) b.holds (w.alloc (.cells #[ι n] 2))):=κ λW' y _ m=>Dp n _ y W' (qq m aM)
 obtain⟨_,_,c2,_,_,_⟩:=ac.o.cells ⟨_,ql.refl _⟩;have bQ:w.heap.size≠R:=λe=>by have:=lt_of_block ab.blk;omega
 obtain⟨H,cap,rfl,bU⟩:=ab.row.shape;obtain⟨bl,aK⟩:=ν (JM b n);obtain⟨Y,aH⟩:=ν (b.begun);rw[aH] at ax;obtain⟨bj,aJ⟩:=ν ((if Y=ό then b.hi+1 else 0));rw[aJ] at ax;have bt:=κ ax;have bs:=κ aJ;have an:=κ aH;obtain⟨bg,ba⟩:=ν (yi b.hi b.bits n);have ag:=κ ba;clear ax aJ ba;have aR:Hid ((b.holds.any λk=>k.1==n)=bl):=κ aK;have ai:=κ aK;have br:Hid ((δ H b.holds.length cap).ownBlock≠ϊ w.heap.size):=κ (λe=>by have:=(ab.row.own_ge e).2;omega);have aQ:=κ (lt_of_block ab.blk);have aA:Hid (∀(e:Int) (aC:World),jP b n d x=(b,e)->xZ aC R (δ H b.holds.length cap) b->ql w aC->(Ending.returned (ι e)= .returned (ι (jP b n d x).2)/\ ∃v',NQ w aC R (δ H b.holds.length cap) v' (jP b n d x).1)):=κ (λe aC aa ak bD=>by rw[aa];exact⟨rfl,_,NQ.keep bD ak⟩);clear ab aM aH aK
 go_enter func194,ntmps194
 go_upto_block 0 with (go_at_call 172;(go_call bt.o as bP w1 ⟨rfl,rfl⟩))
 go_cut [] from 21 to 82 (λN=>xZ N R (δ H b.holds.length cap) b/\N.heap[w.heap.size]? =ϊ (.cells #[ι n] 2)/\ql w N/\jP b n d x=({b with holds:=ue b.holds (n,d,x)},0)/\ ¬b.room<=b.holds.length)
 case first=>
  cases bl
  ·go_upto_region 5 with (go_at_call 173;(go_call xt _ _ (λk=>k.1==n) am b.holds _ (R+1) _ ac.o.row ao.o as aG w2 ⟨rfl,M⟩;rw[aR.o];have O:=κ (ac.o.on M);have au:=κ (qq M aT.o);have aq:=κ (aS.o.trans M);clear M))
   clear ao c2 am;have bA:=λ(x:qt w2)=>β0 (qq x.h au.o)
   have c4: ∀x:qt w2,x.w'.cell? ⟨R,4,ϋ⟩=ϊ (ι b.hi):=λx=>(O.o.cells x).2.2.2.2.1
   have c5: ∀x:qt w2,x.w'.cell? ⟨R,5,ϋ⟩=ϊ (ψ b.bits):=λx=>(O.o.cells x).2.2.2.2.2
   have aN:Hid (∀W:World,Calls prog 248 #[θ #[ι b.hi,ψ b.bits],ι n] W λe w'=>e= .returned (μ bg)/\ql W w'):=κ λW=>by rw[<-ag.o];exact FX b.hi b.bits n bG bF bu.o W
   obtain⟨q,be⟩:=ν ((Y&&bg));have ah:=κ be;clear be
   go_cut [21] from 28 to 82 (λv N=>v= μ q/\ql w2 N)
   case first=>
    cases Y
    all_goals
     refine qD w2 (ql.refl _) ξ ξ ?_
     repeat (go_big_quiet_step ((go_at_call 248;with_reducible exact j6 (aN.o _))))
     refine wpQuiet_nil ?_;intro _ aL;obtain⟨bm,rfl⟩:=aL;have aj:=κ bm.h;generalize bm.w'=w5 at *;go_wp2;go_meet;exact⟨by rw[<-ah.o];simp,aj.o⟩
   case rest=>
   obtain⟨rfl,aw⟩:=hcut;have af:=κ (O.o.on aw);have aU:=κ (qq aw au.o);have aj:=κ (aq.o.trans aw);clear aw bA c4 c5 O au aq aN;cases q
   ·have bB:=β0 aU.o;obtain⟨aB,bf⟩:=ν ((Y&&decide (n<bj)));have ap:=κ bf;clear bf;have aE:Hid ((Y&&decide (n<b.hi+1))=aB):=κ (by rw[<-ap.o,<-bs.o];cases Y<;>simp)
    go_upto_region 7 with fail
    go_cut [37] from 38 to 82 (λv N=>v= μ aB/\wc=N)
    case first=>
     cases Y
     ·go_wp2;go_meet;exact⟨by rw[<-ap.o];rfl,rfl⟩
     ·by_cases hl:n<bj
      ·go_wp2;go_meet;exact⟨by rw[<-ap.o];simp[hl],rfl⟩
      ·go_wp2;go_meet;exact⟨by rw[<-ap.o];simp[hl],rfl⟩
    case rest=>
    obtain⟨rfl,rfl⟩:=hcut;cases aB
    ·go_upto_region 9 with fail
     have bz: ∀x:qt wc,x.w'.cell? ⟨R,0,ϋ⟩=ϊ (ι b.room):=λx=>(af.o.cells x).1
     have c2: ∀x:qt wc,x.w'.cell? ⟨R,2,ϋ⟩=ϊ (δ H b.holds.length cap):=λx=>(af.o.cells x).2.2.1
     by_cases hf:b.room<=b.holds.length
     all_goals
      refine qD wc (ql.refl _) ξ ξ ?_
      repeat (go_big_quiet_step (fail))
      refine wpQuiet_nil ?_;intro _ aL;obtain⟨aD,rfl⟩:=aL;have ad:=κ (af.o.on aD.h);have av:=κ (qq aD.h aU.o);have ar:=κ (aj.o.trans aD.h);clear bz c2 bB;generalize aD.w'=w9 at *
     ·have J:=κ (show jP b n d x=(b,8) by unfold jP;rw[ai.o,an.o,ag.o,ah.o,aE.o,ώ ζ,ώ ζ,ϐ hf]);go_wp2;go_ret;exact aA.o _ _ J.o ad.o ar.o
     ·go_wp2;go_meet;exact⟨ad.o,av.o,ar.o,by unfold jP;rw[ai.o,an.o,ag.o,ah.o,aE.o,ώ ζ,ώ ζ,ώ τ],τ⟩
    ·have J:=κ (show jP b n d x=(b,9) by unfold jP;rw[ai.o,an.o,ag.o,ah.o,aE.o];rfl);go_wp2;go_ret;exact aA.o _ _ J.o af.o aj.o
   ·have J:=κ (show jP b n d x=(b,10) by unfold jP;rw[ai.o,an.o,ag.o,ah.o];rfl);go_wp2;go_ret;exact aA.o _ _ J.o af.o aj.o
  ·have J:=κ (show jP b n d x=(b,10) by unfold jP;rw[ai.o];rfl)
   go_wp2_with (go_at_call 173;(go_call xt _ _ (λk=>k.1==n) am b.holds _ (R+1) _ ac.o.row ao.o as aG w2 ⟨rfl,M⟩;rw[aR.o];have O:=κ (ac.o.on M);have au:=κ (qq M aT.o);have aq:=κ (aS.o.trans M);clear M))
   go_ret;exact aA.o _ _ J.o O.o aq.o
 case rest=>
 obtain⟨aY,bi,bh,aZ,bE⟩:=hcut;have ad:=κ aY;have av:=κ bi;have ar:=κ bh;have J:=κ aZ;have bq:Hid (b.holds.length<=8):=κ (bp.o.resolve_left τ);obtain⟨_,_,aG,_,_,_⟩:=ad.o.cells ⟨_,ql.refl _⟩;have bo:Hid (ZA 247 #[γ w.heap.size] (λk=>decide (n<k.1)) b.holds wc):=κ λW' y _ m=>Wp n _ y W' (qq m av.o)
 clear aY bi bh aZ bE c2 ao am;have aO:=κ (wJ _ _ (λk=>decide (n<k.1)) bn b.holds _ (R+1) _ ad.o.row bo.o);obtain⟨bI,aI⟩:=ν (Jk (λk=>decide (n<k.1)) b.holds);rw[aI] at aO;have aP:=κ aI;clear aI
 go_upto_region 12 with (go_at_call 231;(go_call aO.o as aX w10 ⟨rfl,ay⟩;have U:=κ (ad.o.on ay);have bv:=κ (qq ay av.o);have aF:=κ (ar.o.trans ay);obtain⟨_,_,aX,_,_,_⟩:=U.o.cells ⟨_,ql.refl _⟩;clear ay aG))
 obtain⟨bX,bb⟩:=ν (decide (bI<0));have bN:=κ bb;clear bb
 go_upto_if 62 with fail
 go_cut [13] from 63 to 82 (λv N=>v= ι (atJ b.holds n:Int)/\w10=N)
 case first=>
  rcases Fx b.holds n with ⟨aa,ak⟩ | ⟨aa,ak⟩
  ·rw[aP.o] at aa;subst aa;have bT: ¬((atJ b.holds n:Nat):Int)<0:=by omega
   go_wp2;go_meet;exact⟨rfl,rfl⟩
  ·rw[aP.o] at aa;subst aa;have O:=κ ak;clear ak;go_wp2;go_meet;exact⟨by rw[O.o],rfl⟩
 case rest=>
 obtain⟨rfl,rfl⟩:=hcut
 go_upto_region 14 with fail
 have bd:(δ H b.holds.length cap).ownBlock≠ϊ R:=λe=>by have:=(U.o.row.own_ge e).1;omega
 have bH:(δ H b.holds.length cap).ownBlock≠ϊ w.heap.size:=br.o;have c2:=λ(x:qz (λk=>(δ H b.holds.length cap).ownBlock=ϊ k) w10)=>β2 (x.h.blk U.o.blk bd)
 have c5:=λ(x:qz (λk=>(δ H b.holds.length cap).ownBlock=ϊ k) w10)=>β0 (x.h.blk bv.o bH)
 clear aX;refine QN (λk=>(δ H b.holds.length cap).ownBlock=ϊ k) w10 14 15 [10,11,12,14] ?_
 refine Nx ?_
 (refine Ql ?_;intro K I)
 have az:ql w10 ((w10.drewN 1).alloc (.cells #[ι n,ι d,ι x] 338)):=(ql.drewN w10 1).al _;have aV:jt (λk=>(δ H b.holds.length cap).ownBlock=ϊ k) w10 ((w10.drewN 1).alloc (.cells #[ι n,ι d,ι x] 338)):=jt.of_more az;refine⟨qi aV,I _ _ ?_⟩;clear I K
 (refine Ql ?_;intro K I)
 have bw:Vh b.holds (n,d,x) (δ H b.holds.length cap) (R+1) ((w10.drewN 1).alloc (.cells #[ι n,ι d,ι x] 338)) w10.heap.size:=⟨U.o.row.more az,by have:=aF.o.size;have:=az.size;have:=aQ.o;omega,by have:=bq.o;omega,qC (w:=w10.drewN 1) rfl,λe=>by have:=(U.o.row.own_ge e).2;omega⟩;refine(Wk b.holds (atJ b.holds n) (Ua _ _) (n,d,x) _ (R+1) _ _ bw).mono ?_;rintro e bM ⟨v',rfl,bL,bx,bJ⟩;have ae:=aV.trans bx;have bk:zT bM (R+1) v' (ue b.holds (n,d,x)):=by
  unfold ue;exact bL
 have bK:v'.ownBlock=(δ H b.holds.length cap).ownBlock∨ ∃g,v'.ownBlock=ϊ g/\w.heap.size<=g:=bJ.elim ϑ λh=>ϕ ⟨_,h,by have:=aF.o.size;have:=az.size;omega⟩
 obtain⟨bY,bO,rfl,_⟩:=bk.shape;refine⟨_,rfl,qi ae,I _ _ ?_⟩;clear I K
 (refine Ql ?_;intro K I)
 refine⟨qi ae,I _ _ ?_⟩;clear I K
 iterate 1 (refine qE rfl rfl (qi ae) ?_;intro K I;go_big_quiet_op;go_big_quiet_on)
 have aW:=ae.blk U.o.blk bd;have aB:=qm aW 2 rfl;have bZ:=yw aW 2
 (refine Qe ?_;intro K I)
 refine I _ _ ?_;clear I K;refine qA ?_;go_wp2;go_ret;exact⟨by rw[J.o];rfl,_,by rw[J.o];exact Bl U.o aF.o aQ.o ae bk bK⟩
def Ce (L:List Hd) (h:Hd):(ue L h).length=L.length+1:=by
 unfold ue;have:=Ua L h.1;rw[Ϗ,ϙ,Ϡ,Ϣ];omega
def Xl (L:List Hd) (h k:Hd):k∈ue L h↔k=h∨k∈L:=by
 unfold ue;rw[ϯ,Ϯ]
 conv=>rhs;rw[<-B6 (atJ L h.1) L,ϯ]
 constructor
 ·rintro(a | a | a)
  ·exact ϕ (ϑ a)
  ·exact ϑ a
  ·exact ϕ (ϕ a)
 ·rintro(a | a | a)
  ·exact ϕ (ϑ a)
  ·exact ϑ a
  ·exact ϕ (ϕ a)
def PD (k:Hd) (L:List Hd) (h:Hd):ue (k::L) h=if h.1<k.1 then h::k::L else k::ue L h:=by
 unfold ue atJ;rw[List.findIdx_cons];by_cases e:h.1<k.1
 ·simp[e]
 ·simp[e]
def ZU: ∀(L:List Hd) (h:Hd),(L.Pairwise λa c=>a.1<c.1)->(∀k∈L,¬k.1=h.1)->(ue L h).Pairwise λa c=>a.1<c.1
 | [],h,_,_=>by simp[ue,atJ]
 | k::L,h,hp,hn=>by
  rw[I6] at hp;rw[PD];by_cases e:h.1<k.1
  ·rw[ϐ e,I6,I6];refine⟨λc d=> ?_,hp.1,hp.2⟩;rcases Ϯ.1 d with rfl | d
   ·exact e
   ·exact Int.lt_trans e (hp.1 c d)
  ·rw[ώ e,I6];have:=hn k ϛ;refine⟨λc d=> ?_,ZU L h hp.2 λc d=>hn c (ϫ _ d)⟩;rcases(Xl L h c).1 d with rfl | d
   ·omega
   ·exact hp.1 c d
def GF (b:Jb) (n:Int):JM b n=ύ↔ ∀k∈b.holds,¬k.1=n:=by
 unfold JM;rw[M0];constructor
 ·intro h k d e;exact h k d (by simpa using e)
 ·intro h k d e;exact h k d (by simpa using e)
def Uz (b:Jb) (n d x:Int):((jP b n d x).1=b/\(jP b n d x).2≠0)∨
  (jP b n d x=({b with holds:=ue b.holds (n,d,x)},0)/\JM b n=ύ/\(b.begun=ό->b.hi<n)/\(b.holds.length:Int)<b.room):=by
 unfold jP;by_cases h1:(JM b n||(b.begun&&yi b.hi b.bits n))=ό
 ·rw[ϐ h1];exact ϑ ⟨rfl,show (10:Int)≠0 by decide⟩
 ·rw[ώ h1];by_cases h2:(b.begun&&decide (n<b.hi+1))=ό
  ·rw[ϐ h2];exact ϑ ⟨rfl,show (9:Int)≠0 by decide⟩
  ·rw[ώ h2];by_cases h3:b.room<=b.holds.length
   ·rw[ϐ h3];exact ϑ ⟨rfl,show (8:Int)≠0 by decide⟩
   ·rw[ώ h3];refine ϕ ⟨rfl, ?_, ?_,τ⟩
    ·cases hs:JM b n with
     | false=>rfl
     | true=>rw[hs] at h1;simp at h1
    ·intro H;rw[H] at h2;simp at h2;omega
def Eu {b:Jb} (d:JOK b) {I x:Int} (O:xz n) (U:xz I):JOK (jP b n I x).1:=by
 rcases Uz b n I x with ⟨h,_⟩ | ⟨h,M,N,Y⟩
 ·rw[h];exact d
 ·rw[h];refine⟨d.room,d.wait, ?_,λk H=> ?_,ZU _ _ d.rise ((GF b n).1 M),d.hi,d.bits,λJ k H=> ?_⟩
  ·show ((ue b.holds (n,I,x)).length:Int)<=b.room;rw[Ce];omega
  ·rcases(Xl _ _ k).1 H with rfl | H
   ·exact⟨O,U⟩
   ·exact d.nums k H
  ·rcases(Xl _ _ k).1 H with rfl | H
   ·exact N J
   ·exact d.over J k H
def VL {b:Jb} (d:JOK b) {T:List Hd} (H:b.holds=h::T):JOK (xT b):=by
 have O:=d.nums h (by rw[H];exact ϛ);have J:=d.rise;rw[H,I6] at J;have e:xT b={b with holds:=T,begun:=ό,hi:=(wK b h.1).1,bits:=(wK b h.1).2}:=by unfold xT;rw[H]
 have M:(wK b h.1).1=h.1:=by
  unfold wK;split
  ·rename_i N;rw[QD];have:=d.over N h (by rw[H];exact ϛ);omega
  ·rfl
 rw[e];refine⟨d.room,d.wait, ?_,λk I=>d.nums k (by rw[H];exact ϫ _ I),J.2, ?_, ?_,λ_ k I=> ?_⟩
 ·have:=d.fits;rw[H,ϙ] at this;show ((T.length:Nat):Int)<=b.room;omega
 ·show xz (wK b h.1).1;rw[M];exact O.1
 ·show U64 (wK b h.1).2;unfold wK;split
  ·exact VG _ _ _ d.bits
  ·exact(show U64 1 from ⟨ζ,ζ⟩)
 ·show (wK b h.1).1<k.1;rw[M];exact J.1 k I
def yD (b:Jb) (now:Int):Jb×Int×Int×Bool:=match b.holds with
 | []=>(b,0,0,ύ)
 | h::_=>if xa b now then (xT b,h.1,h.2.2,ό) else (b,0,0,ύ)
def FJ (b:Jb) (af:JOK b) (R:Nat) (v:Value) (d:Int) (ak:xz d) (w:World) (N:xZ w R v b):
  Calls prog 133 #[γ R,ι d] w λe w'=>e= .returned (.tuple #[ι (yD b d).2.1,ι (yD b d).2.2.1,μ (yD b d).2.2.2])/\ ∃v',NQ w w' R v v' (yD b d).1:=by
 have ab:=κ N;have ac:=κ (Z7 b af R v d ak w N);cases hr:xa b d with
 | false=>
  have M:yD b d=(b,0,0,ύ):=by
   unfold yD;cases b.holds with
   | nil=>rfl
   | cons h T=>simp only[hr];rfl
  rw[M];have U:=κ hr;clear M hr N
  go_enter func133,ntmps133
  go_wp2_with (go_at_call 119;(go_call ac.o as e w1 ⟨rfl,H⟩;rw[U.o];have I:=κ H;clear H))
  refine bodyPost_ret (v:= .tuple #[ι 0,ι 0,ύ]) (by simp[results,results133,go_sem]) rfl ?_;exact⟨rfl,v,NQ.keep I.o (ab.o.on I.o)⟩
 | true=>
  obtain⟨h,T,J⟩: ∃h T,b.holds=h::T:=by
   cases J:b.holds with
   | nil=>unfold xa at hr;rw[J] at hr;cases hr
   | cons h T=>exact⟨h,T,rfl⟩
  have M:yD b d=(xT b,h.1,h.2.2,ό):=by
   unfold yD;rw[J];simp only[hr];rfl
  rw[M];have U:=κ hr;have ah:=κ J;clear M hr N J
  go_enter func133,ntmps133
  go_wp2_with (first | (go_at_call 119;(go_call ac.o as e w1 ⟨rfl,H⟩;rw[U.o];have I:=κ H;have ag:=κ (ab.o.on H);clear H)) | (go_at_call 178;(go_call Z9 b h T ah.o af R v _ ag.o as e w2 ⟨rfl,am,st⟩;have aa:=κ st;clear st)))
  obtain⟨W,O⟩: ∃W,W=w2.alloc (.cells #[ι h.1,ι h.2.1,ι h.2.2] 338):=⟨_,rfl⟩;have ae:W.heap[w2.heap.size]? =ϊ (.cells #[ι h.1,ι h.2.1,ι h.2.2] 338 (0,0)):=by rw[O];exact qj w2 _
  have ad:ql w2 W:=by rw[O];exact ql.alloc w2 _
  have Y:=λ(x:qt W)=>qq x.h ae
  have ao:=λx=>β0 (Y x);have c2:=λx=>β2 (Y x);clear Y
  have ai:=κ ad;rw[<-O];clear O ae ad;generalize w2.heap.size=BX at *;refine qD W (ql.refl _) ξ ξ ?_
  repeat (go_big_quiet_step (fail))
  refine wpQuiet_nil ?_;intro _ al;obtain⟨an,rfl⟩:=al;go_wp2;refine bodyPost_ret (v:= .tuple #[ι h.1,ι h.2.2,ό]) (by simp[results,results133,go_sem]) rfl ?_;have m:=ai.o.trans an.h;refine⟨rfl,am,aa.o.buf.on m, ?_, ?_⟩
  ·exact jt.old I.o (aa.o.away.more m) λk aj=>ϑ aj
  ·exact aa.o.own.elim ϑ λ⟨g,a,c⟩=>ϕ ⟨g,a,Ϙ I.o.size c⟩
def Ok (room wait:Int):Prop:=1<=room/\room<=8/\0<=wait/\wait<=1000
instance (r w:Int):Decidable (Ok r w):=by unfold Ok;infer_instance
def CU (room wait:Int):Jb:=⟨room,wait,[],ύ,0,0⟩
def EJ {room d:Int} (h:Ok room d):JOK (CU room d):=
 ⟨⟨h.1,h.2.1⟩,⟨h.2.2.1,h.2.2.2⟩,(by show ((0:Nat):Int)<=room;have:=h.1;omega),λk H=>(by cases H),List.Pairwise.nil,(show xz 0 from ⟨ζ,ζ⟩),(show U64 0 from ⟨ζ,ζ⟩),λe=>(by cases e)⟩
def Lq (room d:Int) (w:World) (h: ¬Ok room d):
  Calls prog 41 #[ι room,ι d] w λe w'=>e= .returned (.tuple #[π ϋ,ι 1])/\w=w':=by
 by_cases h1:room<1
 ·clear h
  go_enter func41,ntmps41
  go_wp2
  go_ret2
  exact⟨rfl,rfl⟩
 ·by_cases h2:8<room
  ·clear h
   go_enter func41,ntmps41
   go_wp2
   go_ret2
   exact⟨rfl,rfl⟩
  ·by_cases h3:d<0
   ·clear h
    go_enter func41,ntmps41
    go_wp2
    go_ret2
    exact⟨rfl,rfl⟩
   ·have H:1000<d:=by unfold Ok at h;omega
    clear h
    go_enter func41,ntmps41
    go_wp2
    go_ret2
    exact⟨rfl,rfl⟩
def YM (room d:Int) (w:World) (h:Ok room d):
  Calls prog 41 #[ι room,ι d] w λe w'=>e= .returned (.tuple #[γ w.heap.size,ι 0])/\xZ w' w.heap.size (δ ϋ 0 0) (CU room d)/\ql w w'/\w.heap.size<w'.heap.size:=by
 obtain⟨H,I,J,M⟩:=h;have N: ¬room<1:=by omega
 have O: ¬8<room:=by omega
 have U: ¬d<0:=by omega
 have Y: ¬1000<d:=by omega
 clear H I J M
 go_enter func41,ntmps41
 go_wp2
 go_ret2
 exact⟨rfl,⟨qj w _,World.ownsRow_nil _ _ _ _⟩,ql.alloc w _,η⟩
def UI {base e size n:Nat} (h:w.ownsRow base e size v n xs) (a:jt S w w') (I: ∀k,v.ownBlock=ϊ k-> ¬S k):w'.ownsRow base e size v n xs:=by
 obtain⟨d,H⟩:=h;refine⟨d, ?_⟩;rcases H with h | ⟨g,cap,cur,e1,hb,hg,rest⟩
 ·exact ϑ h
 ·exact ϕ ⟨g,cap,cur,e1,hb,a.blk hg (I g (by rw[e1];rfl)),rest⟩
structure DrJ (w0 wr:World) (R:Nat) (v0 v:Value) (b:Jb) (v3:Value) (A:List Int):Prop where
 buf:xZ wr R v b
 ok:JOK b
 row:wr.ownsRow w0.heap.size 3 1 v3 A.length (A.map (Value.int .i64))
 away:jt (λk=>k=R∨v0.ownBlock=ϊ k) w0 wr
 own:v.ownBlock=v0.ownBlock∨ ∃g,v.ownBlock=ϊ g/\w0.heap.size<=g
 sep: ∀k,v3.ownBlock=ϊ k->v.ownBlock≠ϊ k
def DrJ.step {I wr:World} {v0 v3:Value} {b:Jb} {T:List Hd} (H:DrJ I wr R v0 v b v3 A) (O:R<I.heap.size) (M:b.holds=h::T) (st:NQ wr w' R v v' (xT b)):DrJ I w' R v0 v' (xT b) v3 A:=by
 have N: ∀k,v3.ownBlock=ϊ k->I.heap.size<=k/\k<wr.heap.size:=λk d=>by
  rcases H.row.2 with ⟨rfl,_⟩ | ⟨g,cap,cur,rfl,M,J,_⟩
  ·cases d
  ·obtain rfl:g=k:=by injection d
   exact⟨M,lt_of_block J⟩
 refine⟨st.buf,VL H.ok M,UI H.row st.away λk d x=> ?_, ?_, ?_,λk d e=> ?_⟩
 ·rcases x with x | x
  ·have:=(N k d).1;omega
  ·exact H.sep k d x
 ·have a:jt (λk=>(k=R∨v0.ownBlock=ϊ k)∨I.heap.size<=k) I w':=(H.away.mono λk d=>ϑ d).trans (st.away.mono λk d=>by
   rcases d with d | d
   ·exact ϑ (ϑ d)
   ·rcases H.own with e | ⟨g,e,J⟩
    ·exact ϑ (ϕ (by rw[<-e];exact d))
    ·rw[e] at d;injection d with d
     exact ϕ τ)
  exact jt.old (ql.refl I) a λk d=>d
 ·rcases st.own with e | ⟨g,e,J⟩
  ·rw[e];exact H.own
  ·exact ϕ ⟨g,e,Ϙ H.away.size J⟩
 ·rcases st.own with e2 | ⟨g,e2,J⟩
  ·rw[e2] at e;exact H.sep k d e
  ·rw[e2] at e;injection e with e
   have:=(N k d).2;omega
def DrJ.on {H wr:World} {v0 v3:Value} {b:Jb} (d:DrJ H wr R v0 v b v3 A) (m:ql wr w'):DrJ H w' R v0 v b v3 A:=
 ⟨d.buf.on m,d.ok,jE d.row m,d.away.more m,d.own,d.sep⟩
def DrJ.put {I wr:World} {v0 v3 M:Value} {b:Jb} {A':List Int} (H:DrJ I wr R v0 v b v3 A) (ac:R<I.heap.size) (Y:w'.ownsRow I.heap.size 3 1 M A'.length (A'.map (Value.int .i64))) (J:wr.grownBy w' v3.ownBlock) (aa:M.ownBlock=v3.ownBlock∨M.ownBlock=ϊ wr.heap.size):DrJ I w' R v0 v b M A':=by
 have N: ∀k,v3.ownBlock=ϊ k->I.heap.size<=k:=λk d=>by
  rcases H.row.2 with ⟨rfl,_⟩ | ⟨g,cap,cur,rfl,U,J,_⟩
  ·cases d
  ·obtain rfl:g=k:=by injection d
   exact U
 have a:jt (λk=>v3.ownBlock=ϊ k) wr w':=⟨J.os,J.tape,J.output,J.size,λk d ab=>J.block k d (λe=>ab e.symm)⟩;refine⟨⟨a.blk H.buf.blk λx=>by have:=N R x;omega,H.buf.row.away a λk d x=>H.sep k x d⟩,H.ok,Y, ?_,H.own,λk d e=> ?_⟩
 ·have O:jt (λk=>(k=R∨v0.ownBlock=ϊ k)∨I.heap.size<=k) I w':=(H.away.mono λk d=>ϑ d).trans (a.mono λk d=>ϕ (N k d));exact jt.old (ql.refl I) O λk d=>d
 ·rcases aa with e2 | e2
  ·rw[e2] at d;exact H.sep k d e
  ·rw[e2] at d;injection d with d
   have:=(H.buf.row.own_ge e).2;omega
def Lz:Value->Nat
 | .slice _ n _=>n
 | _=>0
def XA {base e size n:Nat} (h:w.ownsRow base e size v n xs): ∃oa cap,v= δ oa n cap:=by
 rcases h.2 with ⟨rfl,d⟩ | ⟨g,cap,cur,rfl,_⟩
 ·exact⟨ϋ,0,by rw[d]⟩
 ·exact⟨_,cap,rfl⟩
def Qr:Nat->Jb->Jb
 | 0,b=>b
 | n+1,b=>Qr n (xT b)
def vP (b:Jb):Jb:=Qr b.holds.length b
def thJ (L:List Hd):List Int:=L.map λh=>h.2.2
def Wn (b:Jb) (ok:JOK b) (R:Nat) (v:Value) (w:World) (N:xZ w R v b):
  Calls prog 125 #[γ R] w λe w'=> ∃vx,e= .returned vx/\ ∃v',DrJ w w' R v v' (vP b) vx (thJ b.holds)/\(vP b).holds=[]:=by
 have ac:=lt_of_block N.blk;obtain⟨ar,hi,ao,ap,aq⟩:=info_parts (P:=prog) (e:=3) (z:= ι 0) (size:=1) (bytes:=8) ξ;have ak:Hid (b.holds.length<=8):=κ (by have:=ok.fits;have:=ok.room;omega);have ah:Hid (DrJ w w R v v b (δ ϋ 0 0) []):=κ ⟨N,ok,World.ownsRow_nil _ _ _ _,jt.refl _ _,ϑ rfl,λk am=>by cases am⟩;clear N
 go_enter func125,ntmps125
 go_wp2
 go_loopw [3] (λv3 wr=> ∃v' d A,DrJ w wr R v v' d v3 A/\A++thJ d.holds=thJ b.holds/\Qr d.holds.length d=vP b) (λv3 _=>b.holds.length-Lz v3)
 case atStart=>exact⟨v,b,[],ah.o,rfl,rfl⟩
 case round=>
  obtain⟨v',d,A,I,O,ae⟩:=hrel;have aa:=κ ae;clear ae;have J:=κ I;have Y:=κ O;obtain⟨_,_,c2,_,_,_⟩:=I.buf.cells ⟨wr,ql.refl _⟩;obtain⟨aA,cap,rfl,aw⟩:=I.buf.row.shape;obtain⟨ay,c3,rfl⟩:=XA I.row;have an:A.length+d.holds.length=b.holds.length:=by
   have:=ϵ List.length O;unfold thJ at this;rw[Ϗ,B9,B9] at this;exact this
  have ab:=κ an;clear I O;cases hb:d.holds with
  | nil=>
   have H:=κ hb;rw[hb,ϧ] at c2;clear hb;have aj:Hid (A=thJ b.holds):=κ (by have:=Y.o;rw[H.o] at this;simpa [thJ] using this);go_wp2;go_ret;have ad:d=vP b:=by have:=aa.o;rw[H.o] at this;exact this
   exact⟨_,rfl,⟨_,by rw[<-aj.o,<-ad];exact J.o⟩,by rw[<-ad];exact H.o⟩
  | cons h T=>
   have H:=κ hb;have ax:(0:Int)<(d.holds.length:Int):=by rw[hb];simp
   clear hb;have al:=κ (Z9 d h T H.o J.o.ok R _ wr J.o.buf);have av: ∀w2,(Instr.field 338 (θ #[ι h.1,ι h.2.1,ι h.2.2]) 2).run prog w2= .ok (ι h.2.2) w2:=λw2=>by kernel_rfl
   go_wp2_with (first | (go_at_call 178;(go_call al.o as e w2 ⟨rfl,au,st⟩;have M:=κ (J.o.step ac H.o st);clear st c2)) | (at_builtin;refine qU _ rfl (.tmp 10) (.tmp 14) 107 rfl w.heap.size 3 ar (ι 0) 8 underlying107 hi ao ap aq rfl _ .i64 A rfl (M.o.on X8).row _ [h.2.2] rfl (SlI.lit .i64 w2 [h.2.2] 3 _ 1 _ rfl rfl rfl η) (by have:=ak.o;have:=ab.o;simp only[ϙ,ϧ];omega) ζ (by have:=M.o.away.size;simp;omega) ?_;intro v5 w5 U af ag;have ai:=κ ((M.o.on X8).put ac U af ag);obtain⟨az,c5,rfl⟩:=XA U;clear U af ag))
   go_roundw
   case rel=>exact⟨au,xT d,A++[h.2.2],(by have:=ai.o;rw[Ϗ] at this;exact this),by rw[show (xT d).holds=T by unfold xT;rw[H.o]];have:=Y.o;rw[H.o] at this;rw[<-this];simp[thJ],by rw[show (xT d).holds=T by unfold xT;rw[H.o]];have:=aa.o;rw[H.o] at this;exact this⟩
   case measure=>have:=ab.o;rw[H.o] at this;simp[Lz] at *;omega
section
open Go.RowKit Go.ChangeMaps
section
variable {K V:Type} [DecidableEq K] {P:Program}
def yx (k:K):List (K×V)->Nat->Option (Nat×V)
 | [],_=>ϋ
 | (a,v)::l,i=>if k=a then ϊ (i,v) else yx k l (i+1)
def qh:List (K×V)->K->Option V
 | [],_=>ϋ
 | (a,v)::l,k=>if k=a then ϊ v else qh l k
def qx:List (K×V)->K->V->List (K×V)
 | [],k,v=>[(k,v)]
 | (a,b)::l,k,v=>if k=a then (k,v)::l else (a,b)::qx l k v
def yK:List (K×V)->K->List (K×V)
 | [],_=>[]
 | (a,b)::l,k=>if k=a then l else (a,b)::yK l k
def kQ {k:K} {v:V}: ∀{L:List (K×V)} {i j:Nat},yx k L j=ϊ (i,v)->j<=i/\L[i-j]? =ϊ (k,v)/\qh L k=ϊ v/\yK L k=L.eraseIdx (i-j)/\ ∀u,qx L k u=L.set (i-j) (k,u)
 | [],_,_,h=>by simp[yx] at h
 | (a,b)::l,i,j,h=>by
  unfold yx at h;by_cases e:k=a
  ·rw[ϐ e] at h;cases h;subst e;simp[qh,yK,qx]
  ·rw[ώ e] at h;obtain⟨N,H,I,J,M⟩:=kQ h;have d:i-j=(i-(j+1))+1:=by omega
   refine⟨τ,by rw[d];simpa using H,by simp[qh,e,I],by rw[d];simp[yK,e,J],λu=>by rw[d];simp[qx,e,M]⟩
def kR {k:K}: ∀{L:List (K×V)} {j:Nat},yx k L j=ϋ->qh L k=ϋ/\yK L k=L/\k∉L.map Prod.fst/\ ∀u,qx L k u=L++[(k,u)]
 | [],_,_=>by simp[qh,yK,qx]
 | (a,b)::l,j,h=>by
  unfold yx at h;by_cases e:k=a
  ·rw[ϐ e] at h;cases h
  ·rw[ώ e] at h;obtain⟨H,I,d,J⟩:=kR h;refine⟨by simp[qh,e,H],by simp[yK,e,I],by simp[e] at d ⊢;exact d,λu=>by simp[qx,e,J]⟩
def Pu (k:K) (L:List (K×V)) (j:Nat):(yx k L j).map (·.2)=qh L k:=by
 cases h:yx k L j with
 | none=>simp[(kR h).1]
 | some x=>obtain⟨i,v⟩:=x;simp[(kQ h).2.2.1]
structure yz (P:Program) (kt:TypeId) (ke:K->Value):Prop where
 look: ∀(V:Type) (ve:V->Value) (k:K) (L:List (K×V)) (es:List MapEntry) (w:World),es.map (λe=>(e.key,e.val))=L.map (λp=>(ke p.1,ve p.2))->(Instr.findKey kt (ke k) es).run P w= .ok ((yx k L 0).map λx=>(x.1,ve x.2)) w
 check: ∀b k w,(Instr.checkKey b 10000 kt (ke k)).run P w= .ok () w
 same: ∀k,Instr.sameBits 10000 (ke k) (ke k)=ό
def Ja {ke:K->Value} {H:V->Value} {d:TypeDesc} (h: ∀a b,Instr.sameNow d (ke a) (ke b)=ϊ (decide (a=b))) (k:K): ∀(L:List (K×V)) (es:List MapEntry) (i:Nat),
  es.map (λe=>(e.key,e.val))=L.map (λp=>(ke p.1,H p.2))->Instr.findNow d (ke k) es i=ϊ ((yx k L i).map λx=>(x.1,H x.2))
 | [],[],_,_=>rfl
 | [],_::_,_,e=>by simp at e
 | _::_,[],_,e=>by simp at e
 | (a,v)::l,x::es,i,e=>by
  simp only[Ϟ,N0,C7] at e;unfold Instr.findNow yx;rw[e.1.1,h];by_cases hk:k=a
  ·simp[hk,e.1.2]
  ·simp[hk,Ja h k l es (i+1) e.2]
omit [DecidableEq K] in
def UT {ke:K->Value} {H:V->Value} {d:TypeDesc} (h: ∀a b,Instr.sameNow d (ke a) (ke b)=ϋ) (k:K): ∀(L:List (K×V)) (es:List MapEntry) (i:Nat),
  es.map (λe=>(e.key,e.val))=L.map (λp=>(ke p.1,H p.2))->Instr.findNow d (ke k) es i=if L=[] then ϊ ϋ else ϋ
 | [],[],_,_=>rfl
 | [],_::_,_,e=>by simp at e
 | _::_,[],_,e=>by simp at e
 | (a,v)::l,x::es,i,e=>by
  simp only[Ϟ,N0,C7] at e;unfold Instr.findNow;rw[e.1.1,h];simp
def uL {ke:K->Value} {H:V->Value} (h: ∀a b,(Op.equal d (ke a) (ke b)).run P w= .ok (decide (a=b)) w) (k:K): ∀(L:List (K×V)) (es:List MapEntry) (i:Nat),
  es.map (λe=>(e.key,e.val))=L.map (λp=>(ke p.1,H p.2))->(Instr.findAsking d (ke k) es i).run P w= .ok ((yx k L i).map λx=>(x.1,H x.2)) w
 | [],[],_,_=>rfl
 | [],_::_,_,e=>by simp at e
 | _::_,[],_,e=>by simp at e
 | (a,v)::l,x::es,i,e=>by
  simp only[Ϟ,N0,C7] at e;unfold Instr.findAsking yx;rw[Sem.run_bind,e.1.1,h];by_cases hk:k=a
  ·simp[hk,Result.andThen,e.1.2,Sem.run,pure]
  ·simp[hk,Result.andThen,uL h k l es (i+1) e.2]
def yz.of_now {ke:K->Value} {H:TypeDesc} (N:P.underlying d=ϊ H) (h: ∀a b,Instr.sameNow H (ke a) (ke b)=ϊ (decide (a=b)))
  (J: ∀b k w,(Instr.checkKey b 10000 d (ke k)).run P w= .ok () w) (M: ∀k,Instr.sameBits 10000 (ke k) (ke k)=ό):yz P d ke:=
 ⟨λV O k L I w e=>by
  unfold Instr.findKey;rw[Sem.run_bind,run_underlying N]
  simp[Result.andThen,Ja h k L I 0 e,Sem.run,pure],J,M⟩
def yz.of_ask {ke:K->Value} {I:TypeDesc} (O:P.underlying d=ϊ I) (h: ∀a b,Instr.sameNow I (ke a) (ke b)=ϋ) (M: ∀a b w,(Op.equal d (ke a) (ke b)).run P w= .ok (decide (a=b)) w)
  (J: ∀b k w,(Instr.checkKey b 10000 d (ke k)).run P w= .ok () w) (N: ∀k,Instr.sameBits 10000 (ke k) (ke k)=ό):yz P d ke:=
 ⟨λV U k L H w e=>by
  unfold Instr.findKey;rw[Sem.run_bind,run_underlying O];simp only[Result.andThen,UT h k L H 0 e];by_cases hL:L=[]
  ·subst hL;simp[yx,Sem.run,pure]
  ·simp[hL,uL (λa b=>M a b w) k L H 0 e],J,N⟩
structure jk (w:World) (b:Nat) (ke:K->Value) (ve:V->Value) (L:List (K×V)):Prop where
 ex: ∃es clock,w.heap[b]? =ϊ (.map es clock)/\es.toList.map (λe=>(e.key,e.val))=L.map (λp=>(ke p.1,ve p.2))/\(es.toList.map (·.born)).Nodup/\ ∀e∈es.toList,e.born<clock
 keys:(L.map Prod.fst).Nodup
variable {w:World} {b:Nat} {ke:K->Value} {ve:V->Value} {L:List (K×V)}
omit [DecidableEq K] in
def jk.lt (h:jk w b ke ve L):b<w.heap.size:=by obtain⟨⟨_,_,d,_⟩,_⟩:=h;exact lt_of_block d
omit [DecidableEq K] in
def jk.made (w:World) (ke:K->Value) (d:V->Value):jk (w.alloc (.map #[] 0)) w.heap.size ke d []:=
 ⟨⟨#[],0,qj _ _,rfl,η,η⟩,η⟩
omit [DecidableEq K] in
def jk.away (h:jk w b ke ve L) (m:jt S w w') (I: ¬S b):jk w' b ke ve L:=by
 obtain⟨⟨d,c,H,r⟩,k⟩:=h;exact⟨⟨d,c,m.blk H I,r⟩,k⟩
omit [DecidableEq K] in
def jk.more (h:jk w b ke ve L) (m:ql w w'):jk w' b ke ve L:=h.away (jt.of_more (S:=λ_=>False) m) (λx=>x)
def yf {b:Nat} {H:Array MapEntry} (I:w.heap[b]? =ϊ (.map H c)) (d:Obj):(setObj b d).run P w= .ok () (setBlock w b d):=by
 simp[setObj,Sem.run,I,setBlock]
def j7 {b:Nat} {d:Array MapEntry} (H:w.heap[b]? =ϊ (.map d c)):(getObj b).run P w= .ok (.map d c) w:=by
 simp[getObj,Sem.run,H]
def zG (w:World) (b:Nat) (o:Obj):jt (λx=>x=b) w (setBlock w b o):=
 ⟨rfl,rfl,rfl,by simp[setBlock],λk _ d=>by
  simp only[setBlock]
  rw[C8 (λe=>d e.symm)]⟩
def zD (w:World) (b:Nat) (o:Obj):(setBlock w b o).heap.size=w.heap.size:=by simp[setBlock]
def jk.look {O J t:TypeId} {z:Value} (h:jk w b ke ve L) (I:yz P O ke) (N:P.underlying t=ϊ (.map O J)) (aa:(zeroValue J).run P w= .ok z w) (k:K) (c:Bool):
  (Instr.lookup t (.map (ϊ b)) (ke k) c).run P w= .ok (if c then .tuple #[((qh L k).map ve).getD z,μ (qh L k).isSome] else ((qh L k).map ve).getD z) w:=by
 obtain⟨⟨U,ab,M,Y,_⟩,_⟩:=h;have H:=I.look V ve k L U.toList w Y;have d:=Pu k L 0;unfold Instr.lookup;cases hq:yx k L 0 with
 | none=>
  rw[hq] at H d;simp only[O3] at H d;simp[run_underlying N,j7 M,I.check,H,aa,<-d,go_sem]
 | some x=>
  rw[hq] at H d;simp only[C3] at H d;simp[run_underlying N,j7 M,I.check,H,<-d,go_sem]
def Jq {d:List MapEntry} {k:Value}:(d.modify i λe=>{e with key:=k,val:=v}).map (λe=>(e.key,e.val))=(d.map λe=>(e.key,e.val)).set i (k,v):=by
 induction d generalizing i with
 | nil=>simp
 | cons x l ih=>
  cases i with
  | zero=>simp[List.modify_cons]
  | succ i=>simp[ih]
def kA {d:List MapEntry} {k:Value}:(d.modify i λe=>{e with key:=k,val:=v}).map (·.born)=d.map (·.born):=by
 induction d generalizing i with
 | nil=>simp
 | cons x l ih=>
  cases i with
  | zero=>simp[List.modify_cons]
  | succ i=>simp[ih]
omit [DecidableEq K] in
def XT {k:K} {u:V} {v:V} (h:L[i]? =ϊ (k,v)):((L.set i (k,u)).map Prod.fst)=L.map Prod.fst:=by
 rw[X2];refine K9 λj=> ?_
 rw[List.getElem?_set];by_cases hj:i=j
 ·subst hj;have hi:i<L.length:=(ϟ.1 h).1;have e:=(ϟ.1 h).2;simp[hi,e]
 ·simp[hj]
def jk.update {aj al t:TypeId} (h:jk w b ke ve L) (M:yz P aj ke) (ai:P.underlying t=ϊ (.map aj al)) (k:K) (u:V):
  ∃w',(Instr.mapUpdate t (.map (ϊ b)) (ke k) (ve u)).run P w= .ok () w'/\jk w' b ke ve (qx L k u)/\jt (λx=>x=b) w w'/\w'.heap.size=w.heap.size:=by
 obtain⟨⟨H,aa,I,Y,ah,ad⟩,af⟩:=h;have J:=M.look V ve k L H.toList w Y;unfold Instr.mapUpdate;cases hq:yx k L 0 with
 | none=>
  rw[hq] at J;simp only[O3] at J;obtain⟨aq,N,ae,O⟩:=kR hq;refine⟨setBlock w b (.map (H.push {key:=ke k,val:=ve u,born:=aa}) (aa+1)), ?_,⟨⟨_,_,heap_setBlock_same I _, ?_, ?_, ?_⟩, ?_⟩,zG _ _ _,zD _ _ _⟩
  ·simp[run_underlying ai,j7 I,M.check,J,yf I,go_sem]
  ·rw[O];simp[Y]
  ·simp only[Array.toList_push,ϻ,Ϟ,D4];rw[F2];refine⟨ah,η,λa ac c U=> ?_⟩;obtain⟨e,d,rfl⟩:=E0.1 ac;have:=ad e d;simp at U;omega
  ·intro e d;simp at d;rcases d with d | rfl
   ·have:=ad e (by simpa using d);omega
   ·exact F1 _
  ·rw[O];rw[ϻ,F2];refine⟨af,η,λa ac c U=> ?_⟩;simp at U;subst U;intro e;subst e;exact ae ac
 | some x=>
  obtain⟨i,v⟩:=x;rw[hq] at J;simp only[C3] at J;obtain⟨aq,N,ae,O,ab⟩:=kQ hq;simp only[Nat.sub_zero] at N O ab;have hi:(H.toList.map (λe=>(e.key,e.val)))[i]? =ϊ (ke k,ve v):=by rw[Y,G7,N];rfl
  rw[G7] at hi;obtain⟨e0,am,an⟩:=N2.1 hi;have ao:H[i]? =ϊ e0:=by simpa using am
  have ap:e0.key=ke k:=ϵ Prod.fst an;have ar:(Instr.keyThatStays (((H[i]?).map (·.key)).getD (ke k)) (ke k)).run P w= .ok (ke k) w:=by
   rw[ao];simp only[C3,ϣ,ap];unfold Instr.keyThatStays;rw[M.same];rfl
  refine⟨setBlock w b (.map (H.modify i λe=>{e with key:=ke k,val:=ve u}) aa), ?_,⟨⟨_,_,heap_setBlock_same I _, ?_, ?_, ?_⟩, ?_⟩,zG _ _ _,zD _ _ _⟩
  ·simp only[run_underlying ai,j7 I,M.check,J,Sem.run_bind,Result.andThen,ar,yf I]
  ·rw[ab,O6,Jq,Y,X2]
  ·rw[O6,kA];exact ah
  ·intro e d;have ag:e.born∈((H.modify i λe=>{e with key:=ke k,val:=ve u}).toList.map (·.born)):=M5 d;rw[O6,kA] at ag;obtain⟨ak,au,av⟩:=E0.1 ag;rw[<-av];exact ad ak au
  ·rw[ab,XT N];exact af
end
end
section
open Go.RowKit Go.ChangeMaps
def uZ: ∀{l m:List Nat},l.Nodup->l ⊆ m->l.length<=m.length
 | [],_,_,_=>Δ _
 | a::t,m,h,hs=>by
  simp only[D1] at h;have d:a∈m:=hs ϛ;have J:t ⊆ m.erase a:=λx H=>(T9 (λe=>h.1 (by rw[<-e];exact H))).2 (hs (ϫ _ H))
  have I:=uZ h.2 J;rw[Q2 d] at I;have:=List.length_pos_of_mem d;simp only[ϙ];omega
def XE: ∀{l m:List Nat},l.Nodup->l ⊆ m->m.length<=l.length->l.Perm m
 | [],m,_,_,hl=>by
  have:m=[]:=Ϥ (by simpa using hl);rw[this]
 | a::t,m,h,hs,hl=>by
  simp only[D1] at h;have d:a∈m:=hs ϛ;have J:t ⊆ m.erase a:=λx H=>(T9 (λe=>h.1 (by rw[<-e];exact H))).2 (hs (ϫ _ H))
  have I:=XE h.2 J (by rw[Q2 d];simp at hl;omega);exact(I.cons a).trans (List.perm_cons_erase d).symm
section
variable {K V:Type} [DecidableEq K] {P:Program} {w:World} {b:Nat} {ke:K->Value} {ve:V->Value} {L:List (K×V)}
def ZO (k:K): ∀(L:List (K×V)),(L.map Prod.fst).Nodup->((yK L k).map Prod.fst).Nodup
 | [],h=>h
 | (a,b)::l,h=>by
  simp only[Ϟ,D1] at h;unfold yK;split
  ·exact h.2
  ·simp only[Ϟ,D1];refine⟨λH=>h.1 ?_,ZO k l h.2⟩;obtain⟨x,d,e⟩:=E0.1 H;rw[<-e];refine M5 ?_;clear h H e
   induction l with
   | nil=>exact d
   | cons y l ih=>
    obtain⟨c,I⟩:=y;unfold yK at d;split at d
    ·exact ϫ _ d
    ·rcases Ϯ.1 d with rfl | d
     ·exact ϛ
     ·exact ϫ _ (ih d)
def jk.drop {aa ag t:TypeId} (h:jk w b ke ve L) (N:yz P aa ke) (af:P.underlying t=ϊ (.map aa ag)) (k:K) (al:TypeId):
  ∃w',(Builtin.delete_ #[t,aa] al #[.map (ϊ b),ke k]).run P w= .ok (.tuple #[]) w'/\jk w' b ke ve (yK L k)/\jt (λx=>x=b) w w'/\w'.heap.size=w.heap.size:=by
 have ac:=ZO k L h.keys;obtain⟨⟨d,O,H,M,ae,ab⟩,am⟩:=h;have I:=N.look V ve k L d.toList w M;unfold Builtin.delete_;cases hq:yx k L 0 with
 | none=>
  rw[hq] at I;simp only[O3] at I;obtain⟨ah,J,ai,Y⟩:=kR hq;refine⟨setBlock w b (.map d O), ?_,⟨⟨d,O,heap_setBlock_same H _,by rw[J];exact M,ae,ab⟩,ac⟩,zG _ _ _,zD _ _ _⟩;simp[run_underlying af,j7 H,N.check,I,yf H,go_sem]
 | some x=>
  obtain⟨i,v⟩:=x;rw[hq] at I;simp only[C3] at I;obtain⟨ah,J,ai,Y,aj⟩:=kQ hq;simp only[Nat.sub_zero] at J Y aj;have hi:i<d.size:=by
   have ak:=ϵ List.length M;simp at ak;have:=(ϟ.1 J).1;omega
  have U:(d.eraseIdxIfInBounds i).toList=d.toList.eraseIdx i:=by simp[Array.eraseIdxIfInBounds,hi]
  refine⟨setBlock w b (.map (d.eraseIdxIfInBounds i) O), ?_,⟨⟨_,_,heap_setBlock_same H _, ?_, ?_, ?_⟩,ac⟩,zG _ _ _,zD _ _ _⟩
  ·simp[run_underlying af,j7 H,N.check,I,yf H,go_sem]
  ·rw[Y,U,map_eraseIdx,M,map_eraseIdx]
  ·rw[U,map_eraseIdx];exact List.Nodup.sublist (T2 _ _) ae
  ·intro e ad;rw[U] at ad;exact ab e (List.Sublist.mem ad (T2 _ _))
structure jW (w:World) (r b:Nat) (ke:K->Value) (ve:V->Value) (L:List (K×V)) (is:List Nat):Prop where
 ex: ∃(es:Array MapEntry) (clock since c0:Nat) (seen:Array Nat),w.heap[r]? =ϊ (.mapIter (ϊ b) since seen c0)/\w.heap[b]? =ϊ (.map es clock)/\seen.toList=is.map (λi=>(es[i]?.map (·.born)).getD 0)/\
  es.toList.map (λe=>(e.key,e.val))=L.map (λp=>(ke p.1,ve p.2))/\(es.toList.map (·.born)).Nodup/\(∀e∈es.toList,e.born<since)/\since<=c0/\since<=clock/\(∀e∈es.toList,e.born<clock)
 nd:is.Nodup
 lt: ∀i∈is,i<L.length
 keys:(L.map Prod.fst).Nodup
def jW.away (h:jW w r b ke ve L is) (m:jt S w w') (M: ¬S r) (O: ¬S b):jW w' r b ke ve L is:=by
 obtain⟨⟨I,H,Y,d,U,N,J,rest⟩,n,l,k⟩:=h;exact⟨⟨I,H,Y,d,U,m.blk N M,m.blk J O,rest⟩,n,l,k⟩
def jW.more (h:jW w r b ke ve L is) (m:ql w w'):jW w' r b ke ve L is:=h.away (jt.of_more (S:=λ_=>False) m) (λx=>x) (λx=>x)
def jW.rlt (h:jW w r b ke ve L is):r<w.heap.size:=by
 obtain⟨⟨J,I,N,H,M,d,_⟩,_⟩:=h;exact lt_of_block d
def jk.range {aa M t:TypeId} (h:jk w b ke ve L) (Y:P.underlying t=ϊ (.map aa M)):
  ∃w',(Instr.range t (.map (ϊ b))).run P w= .ok (γ w.heap.size) w'/\jW w' w.heap.size b ke ve L []/\ql w w'/\w'.heap.size=w.heap.size+1:=by
 obtain⟨⟨J,d,H,N,U,I⟩,O⟩:=h;refine⟨w.alloc (.mapIter (ϊ b) d #[] d), ?_,⟨⟨J,d,d,d,#[],qj _ _,qs H _,rfl,N,U,I,ϔ _,ϔ _,I⟩,N4,η,O⟩,ql.alloc _ _,η⟩;unfold Instr.range;simp[run_underlying Y,j7 H,go_sem]
def jW.next (h:jW w r b ke ve L is):
  (is.length=L.length/\ ∀ad,(Instr.next (γ r) ύ ad).run P w= .ok (.tuple #[μ ύ]) w)∨
  ∃(i:Nat) (hi:i<L.length) (w':World),i∉is/\is.length<L.length/\(∀ad,(Instr.next (γ r) ύ ad).run P w= .ok (.tuple #[μ ό,ke L[i].1,ve L[i].2]) w')/\
   jW w' r b ke ve L (is++[i])/\jt (λx=>x=r) w w'/\w'.heap.size=w.heap.size/\(Instr.entry (γ r)).run P w'= .ok (.tuple #[ke L[i].1,ve L[i].2]) w':=by
 obtain⟨⟨d,J,N,ao,I,ak,Y,az,af,ai,ay,aB,ap,aF⟩,an,ac,aH⟩:=h;have aI:d.size=L.length:=by
  have:=ϵ List.length af
  simpa using this
 have aE: ∀(i j:Nat) (hi:i<d.size) (H:j<d.size),d[i].born=d[j].born->i=j:=λi j hi H e=>by
  have aw:=List.pairwise_iff_getElem.1 ai;rcases Nat.lt_trichotomy i j with h | h | h
  ·exact ϩ (by rw[J7,J7];exact e) (aw i j (by simpa using hi) (by simpa using H) h)
  ·exact h
  ·exact ϩ (by rw[J7,J7];exact e.symm) (aw j i (by simpa using H) (by simpa using hi) h)
 have au: ∀i (hi:i<d.size),(d[i].born∈I.toList↔i∈is):=λi hi=>by
  rw[az];constructor
  ·intro M;obtain⟨j,H,e⟩:=E0.1 M;have av:j<d.size:=by rw[aI];exact ac j H
   simp[av] at e;rw[aE i j hi av e.symm];exact H
  ·intro M;exact E0.2 ⟨i,M,by simp[hi]⟩
 rcases run_next_at (P:=P) w 0 r b N ao I d J ak Y ay aB with ⟨aN,al⟩ | ⟨e,M,w1,ab,al⟩
 ·left;refine⟨?_,λ_=>al⟩;have aC: ∀i,i<L.length->i∈is:=λi hi=>by
   have aG:i<d.size:=by omega
   by_cases M:i∈is
   ·exact M
   ·exfalso;have:d[i]∈(leftOf d I).toList:=by
     unfold leftOf;simp only[V6,I1];refine⟨η, ?_⟩;have am:=mt (au i aG).1 M
     simpa using am
    have aq:(leftOf d I).toList.length=0:=by simpa using aN
    rw[K0] at aq;rw[aq] at this;cases this
  have aO:is.length<=L.length:=by
   have:is ⊆ List.range L.length:=λi hi=>F3.2 (ac i hi)
   simpa using uZ an this
  have p2:L.length<=is.length:=by
   have:List.range L.length ⊆ is:=λi hi=>aC i (F3.1 hi)
   simpa using uZ List.nodup_range this
  omega
 ·right;have ah:e∈d.toList/\e.born∉I.toList:=by
   unfold leftOf at M;simp only[V6,I1] at M;exact⟨M.1,by simpa using M.2⟩
  obtain⟨i,hi,aA⟩:=A0.1 ah.1;have ag:i<d.size:=by simpa using hi
  have aa:i<L.length:=by omega
  have e0:d[i]=e:=by simpa using aA
  have aj:i∉is:=by
   intro am;exact ah.2 (by rw[<-e0];exact(au i ag).2 am)
  have U:(e.key,e.val)=(ke L[i].1,ve L[i].2):=by
   have:=ϵ (λl=>l[i]?) af;simp[ag,aa,e0] at this;simp[this]
  simp only[C7] at U;have aL:w1.heap[r]? =ϊ (.mapIter (ϊ b) N I ao):=by rcases ab with rfl | rfl<;>exact ak
  have aD:w1.heap[b]? =ϊ (.map d J):=by rcases ab with rfl | rfl<;>exact Y
  have aM:b≠r:=by intro e;rw[e,ak] at Y;cases Y
  have ax:(setBlock w1 r (.mapIter (ϊ b) N (I.push e.born) J)).heap[r]? =ϊ (.mapIter (ϊ b) N (I.push e.born) J):=by
   simp only[setBlock];rw[Array.getElem?_setIfInBounds_self_of_lt (lt_of_block aL)]
  have ar:(setBlock w1 r (.mapIter (ϊ b) N (I.push e.born) J)).heap[b]? =ϊ (.map d J):=by
   simp only[setBlock];rw[C8 (λe=>aM e.symm)];exact aD
  have aJ:is.length<L.length:=by
   have aK:(is++[i]).Nodup:=by
    rw[F2];refine⟨an,η,λa ae c O=> ?_⟩;simp at O;subst O;intro e;subst e;exact aj ae
   have:is++[i] ⊆ List.range L.length:=λj H=>by
    simp at H;rcases H with H | rfl
    ·exact F3.2 (ac j H)
    ·exact F3.2 aa
   have:=uZ aK this;simp at this;omega
  refine⟨i,aa,setBlock w1 r (.mapIter (ϊ b) N (I.push e.born) J),aj,aJ,λad=>by rw[<-U.1,<-U.2];exact al,⟨⟨d,J,N,J,I.push e.born,ax,ar, ?_,af,ai,ay,ap,ap,aF⟩, ?_, ?_,aH⟩, ?_, ?_, ?_⟩
  ·simp[az,ag,e0]
  ·rw[F2];refine⟨an,η,λa ae c O=> ?_⟩;simp at O;subst O;intro e;subst e;exact aj ae
  ·intro j H;simp at H;rcases H with H | rfl
   ·exact ac j H
   ·exact aa
  ·have:=zG w1 r (.mapIter (ϊ b) N (I.push e.born) J);rcases ab with rfl | rfl
   ·exact this
   ·exact⟨this.os,this.tape,this.output,this.size,this.block⟩
  ·rw[zD];rcases ab with rfl | rfl<;>rfl
  ·rw[run_entry_at _ r b N I d J e ax ar ah.1 ai,U.1,U.2]
def uO (w:World) (b r:Nat):Nat:=match w.heap[r]?,w.heap[b]? with
 | some (.mapIter _ _ seen _),ϊ (.map es _)=>es.size-seen.size
 | _,_=>0
def jW.left (h:jW w r b ke ve L is):uO w b r=L.length-is.length:=by
 obtain⟨⟨d,aa,ab,Y,U,N,J,O,M,_⟩,_⟩:=h;have H:d.size=L.length:=by
  have:=ϵ List.length M
  simpa using this
 have I:U.size=is.length:=by
  have:=ϵ List.length O
  simpa using this
 unfold uO;rw[N,J];simp only[H,I]
def zj (L:List (K×V)) (is:List Nat):List (K×V):=is.filterMap λi=>L[i]?
def uW (hi:i<L.length):zj L (is++[i])=zj L is++[L[i]]:=by
 simp[zj,K8,hi]
def jW.perm (h:jW w r b ke ve L is) (J:is.length=L.length):(zj L is).Perm L:=by
 have N:is ⊆ List.range L.length:=λi hi=>F3.2 (h.lt i hi)
 have M:is.Perm (List.range L.length):=XE h.nd N (by simp[J]);have d:=M.filterMap (λi=>L[i]?);have H:(List.range L.length).filterMap (λi=>L[i]?)=L:=by
  refine K9 λj=> ?_
  have I: ∀n,n<=L.length->(List.range n).filterMap (λi=>L[i]?)=L.take n:=by
   intro n
   induction n with
   | zero=>simp
   | succ n ih=>
    intro O;rw[I0,K8,ih τ,Φ τ];simp[show n<L.length by omega]
  rw[I L.length (ϔ _),ϱ]
 rw[H] at d;exact d
end
def Ab {H:TypeId} (d:P.underlying H=ϊ (.int q)):yz P H (Value.int q):=
 yz.of_now d (λa b=>by simp[Instr.sameNow];rw[C6];simp) (λb k w=>by
  rw[show (10000:Nat)=9999+1 from rfl];unfold Instr.checkKey;rw[Sem.run_bind,run_underlying d]
  rfl) (λk=>by simp[Instr.sameBits])
end
abbrev Bk:=List ((Int×Int)×Int)
variable {m:Bk}
def ke2 (k:Int×Int):Value:= .agg #[.int .i64 k.1,.int .i64 k.2]
def PN (a b:Int×Int) (w:World):(Op.equal 169 (ke2 a) (ke2 b)).run prog w= .ok (decide (a=b)) w:=by
 have M:prog.stoodInHeld 169=ύ:=by kernel_rfl
 obtain⟨d,H⟩:=a;obtain⟨I,J⟩:=b;unfold Op.equal ke2;rw[show Op.maxDepth=9999+1 from rfl,run_equalIn_agg w 9999 169 _ _ ξ M];simp[go_sem];by_cases e1:d=I<;>by_cases e2:H=J<;>simp[e1,e2]
def Dg (H:P.underlying d=ϊ (.int q)) (n:Nat) (I:0<n) (b:Bool) (x:Int) (w:World):(Instr.checkKey b n d (.int q x)).run P w= .ok () w:=by
 obtain⟨m,rfl⟩: ∃m,n=m+1:=⟨n-1,τ⟩;unfold Instr.checkKey;rw[Sem.run_bind,run_underlying H];rfl
def Ys:yz prog 169 ke2:=
 yz.of_ask underlying169 (λa b=>by simp[Instr.sameNow]) PN (λb k w=>by
  rw[show (10000:Nat)=9999+1 from rfl];unfold Instr.checkKey ke2
  simp[run_underlying underlying169,go_sem,Dg underlying3 9999 ζ]) (λk=>by simp[Instr.sameBits,ke2])
structure jy (w:World) (B b:Nat) (m:Bk):Prop where
 blk:w.heap[B]? =ϊ (.cells #[.map (ϊ b)] 238 (0,0))
 map:jk w b ke2 (Value.int .i64) m
 ok: ∀p∈m,0<=p.2/\p.2<=8
def jy.ne {b:Nat} (h:jy w B b m):B≠b:=by
 intro e;obtain⟨I,H,d,_⟩:=h.map.ex;have:=h.blk;rw[e,d] at this;cases this
def jy.more {b:Nat} (h:jy w B b m) (d:ql w w'):jy w' B b m:=⟨qq d h.blk,h.map.more d,h.ok⟩
def jy.away {b:Nat} (h:jy w B b m) (a:jt S w w') (d: ¬S B) (H: ¬S b):jy w' B b m:=⟨a.blk h.blk d,h.map.away a H,h.ok⟩
def Gu (w:World):(zeroValue 80).run prog w= .ok (ι 0) w:=by kernel_rfl
def jy.look {b:Nat} (h:jy w B b m) (k:Int×Int) (n:Nat):
  (Instr.lookup 236 (.map (ϊ b)) (θ #[ι k.1,ι k.2]) ό).run prog (w.drewN n)= .ok (.tuple #[ι ((qh m k).getD 0),μ (qh m k).isSome]) (w.drewN n):=by
 have:=(h.map.more (ql.drewN w n)).look Ys underlying236 (Gu _) k ό;unfold ke2 at this;rw[this];cases qh m k<;>rfl
def Nv (w:World):Calls prog 43 #[] w λe w'=> ∃B b,e= .returned (γ B)/\w.heap.size<=B/\w.heap.size<=b/\jy w' B b []/\ql w w':=by
 go_enter func43,ntmps43
 have d:= @run_makeMap prog;go_wp2;go_ret;exact⟨w.heap.size+1,w.heap.size,rfl,τ,τ,⟨qC η,(jk.made w ke2 (Value.int .i64)).more X8,η⟩,X8.al _⟩
def MK {b:Nat} (h:jy w B b m) (k:Int×Int):
  Calls prog 61 #[γ B,θ #[ι k.1,ι k.2]] w λe w'=>e= .returned (.tuple #[ι ((qh m k).getD 0),μ (qh m k).isSome])/\ql w w':=by
 have d:=h.more (ql.alloc w (.cells #[ι k.1,ι k.2] 169));have I:=β0 d.blk;have q:=d.look k;clear d h
 go_enter func61,ntmps61
 go_wp2;refine wp_region_quiet_lit ξ ξ ?_
 repeat (go_big_quiet_step (fail))
 refine wpQuiet_nil ?_;intro _ H;obtain⟨nq,rfl⟩:=H;go_wp2
 go_ret2
 exact⟨rfl,X8.dr _⟩
def vT (m:Bk) (k:Int×Int):Bk×Int:=if 0<=k.1/\k.1<6/\0<=k.2 then (if (qh m k).isSome then (m,6) else (qx m k 0,0)) else (m,1)
def zi (m:Bk) (k:Int×Int) (f:Int):Bk×Int:=if 1<=f/\f<=8 then (if (qh m k).isSome then (if (qh m k).getD 0=0 then (qx m k f,0) else (m,6)) else (m,5)) else (m,1)
def VE {K V:Type} [DecidableEq K] {k:K} {v:V}: ∀{m:List (K×V)} {p:K×V},p∈qx m k v->p∈m∨p=(k,v)
 | [],p,h=>by simp[qx] at h;exact ϕ h
 | (a,b)::l,p,h=>by
  unfold qx at h;split at h
  ·rcases Ϯ.1 h with h | h
   ·exact ϕ h
   ·exact ϑ (ϫ _ h)
  ·rcases Ϯ.1 h with h | h
   ·exact ϑ (by rw[h];exact ϛ)
   ·rcases VE h with h | h
    ·exact ϑ (ϫ _ h)
    ·exact ϕ h
def jy.put {b:Nat} (h:jy w B b m) (a:jt (λx=>x=b) w w') {k:Int×Int} {f:Int} (H:0<=f/\f<=8) (I:jk w' b ke2 (Value.int .i64) (qx m k f)):jy w' B b (qx m k f):=
 ⟨a.blk h.blk h.ne,I,λp d=>by
  rcases VE d with d | rfl
  ·exact h.ok p d
  ·exact H⟩
def Nu {b:Nat} (h:jy w B b m) (k:Int×Int):
  Calls prog 193 #[γ B,θ #[ι k.1,ι k.2]] w λe w'=>e= .returned (ι (vT m k).2)/\jy w' B b (vT m k).1/\jt (λx=>x=b) w w':=by
 have J:=h.more (ql.alloc w (.cells #[ι k.1,ι k.2] 169));have ag:=β0 J.blk;have q:=J.look k;have I:=κ J;clear J h;have ac:k.1<0∨(¬k.1<0/\6<=k.1)∨(¬k.1<0/\ ¬6<=k.1/\k.2<0)∨(¬k.1<0/\ ¬6<=k.1/\ ¬k.2<0):=by omega
 rcases ac with g1 | ⟨g1,g2⟩ | ⟨g1,g2,g3⟩ | ⟨g1,g2,g3⟩
 ·have d:vT m k=(m,1):=by unfold vT;rw[ώ τ]
  have H:=κ d;clear d q
  go_enter func193,ntmps193
  go_wp2;go_ret;rw[H.o];exact⟨rfl,I.o,jt.of_more X8⟩
 ·have d:vT m k=(m,1):=by unfold vT;rw[ώ τ]
  have H:=κ d;clear d q
  go_enter func193,ntmps193
  go_wp2;go_ret;rw[H.o];exact⟨rfl,I.o,jt.of_more X8⟩
 ·have d:vT m k=(m,1):=by unfold vT;rw[ώ τ]
  have H:=κ d;clear d q
  go_enter func193,ntmps193
  go_wp2;go_ret;rw[H.o];exact⟨rfl,I.o,jt.of_more X8⟩
 ·cases hs:(qh m k).isSome with
  | true=>
   have d:vT m k=(m,6):=by unfold vT;rw[ϐ τ,hs];rfl
   have H:=κ d;simp only[hs] at q;clear d hs
   go_enter func193,ntmps193
   go_wp2;refine wp_region_quiet_lit ξ ξ ?_
   repeat (go_big_quiet_step (fail))
   refine wpQuiet_nil ?_;intro _ M;obtain⟨nq,rfl⟩:=M;go_wp2;go_ret;rw[H.o];exact⟨rfl,I.o.more (ql.drewN _ _),jt.of_more (X8.dr _)⟩
  | false=>
   have d:vT m k=(qx m k 0,0):=by unfold vT;rw[ϐ τ,hs];rfl
   have H:=κ d;simp only[hs] at q;clear d hs
   go_enter func193,ntmps193
   go_wp2;refine wp_region_quiet_lit ξ ξ ?_
   repeat (go_big_quiet_step (fail))
   refine wpQuiet_nil ?_;intro _ M;obtain⟨nq,rfl⟩:=M
   go_wp2_with fail
   have ad:=λ(x:qt (w.alloc (.cells #[ι k.1,ι k.2] 169)))=>β0 (qq x.h I.o.blk)
   have ae: ∀x:qt (w.alloc (.cells #[ι k.1,ι k.2] 169)),x.w'.cell? ⟨w.heap.size,0,ϋ⟩=ϊ (ι k.1):=λx=>x.new 0 rfl
   have af: ∀x:qt (w.alloc (.cells #[ι k.1,ι k.2] 169)),x.w'.cell? ⟨w.heap.size,1,ϋ⟩=ϊ (ι k.2):=λx=>x.new 1 rfl
   refine Qn (w.alloc (.cells #[ι k.1,ι k.2] 169)) 5 6 [5] ?_
   refine Qq5 ?_
   obtain⟨w9,ab,Y,U,_⟩:=(I.o.map.more (ql.drewN _ (nq+1))).update Ys underlying236 k 0;unfold ke2 at ab;have aa:=κ Y;have N:=κ U;clear Y U
   (refine Qe ?_;intro K O)
   refine O _ _ ?_;clear O K;refine qA ?_;go_wp2;go_ret;rw[H.o];exact⟨rfl,(I.o.more (ql.drewN _ (nq+1))).put N.o ζ aa.o,(jt.of_more (X8.dr _)).trans N.o⟩
def yP (f:Int) (w:World) (h:1<=f/\f<=8):Calls prog 166 #[ι f] w λe w'=>e= .returned (μ ό)/\w=w':=by
 obtain⟨d,H⟩:=h
 go_enter func166,ntmps166
 go_wp2;go_ret;exact⟨rfl,rfl⟩
def Jh (f:Int) (w:World) (h: ¬(1<=f/\f<=8)):Calls prog 166 #[ι f] w λe w'=>e= .returned (μ ύ)/\w=w':=by
 have d:f<1∨(¬f<1/\8<f):=by omega
 clear h;rcases d with h1 | ⟨h1,h2⟩
 ·go_enter func166,ntmps166
  go_wp2;go_ret;exact⟨rfl,rfl⟩
 ·go_enter func166,ntmps166
  go_wp2;go_ret;exact⟨qZ (by simp;omega),rfl⟩
def F0 {b:Nat} (h:jy w B b m) (k:Int×Int) (f:Int):
  Calls prog 177 #[γ B,θ #[ι k.1,ι k.2],ι f] w λe w'=>e= .returned (ι (zi m k f).2)/\jy w' B b (zi m k f).1/\jt (λx=>x=b) w w':=by
 have N:=h.more (ql.alloc w (.cells #[ι k.1,ι k.2] 169));have ag:=β0 N.blk;have q:=N.look k;have J:=κ N;clear N h;by_cases hf:1<=f/\f<=8
 ·have H:=κ hf;clear hf;cases hs:(qh m k).isSome with
  | false=>
   have d:zi m k f=(m,5):=by unfold zi;rw[ϐ H.o,hs];rfl
   have I:=κ d;simp only[hs] at q;clear d hs
   go_enter func177,ntmps177
   go_wp2_with (go_at_call 166;((with_reducible refine(yP f _ H.o).mono ?_);rintro e w2 ⟨rfl,rfl⟩))
   refine wp_region_quiet_lit ξ ξ ?_
   repeat (go_big_quiet_step (fail))
   refine wpQuiet_nil ?_;intro _ M;obtain⟨nq,rfl⟩:=M;go_wp2;go_ret;rw[I.o];exact⟨rfl,J.o.more (ql.drewN _ _),jt.of_more (X8.dr _)⟩
  | true=>
   by_cases hv:(qh m k).getD 0=0
   ·have d:zi m k f=(qx m k f,0):=by unfold zi;rw[ϐ H.o,ϐ hs,ϐ hv]
    have I:=κ d;simp only[hs,hv] at q;clear d hs hv
    go_enter func177,ntmps177
    go_wp2_with (go_at_call 166;((with_reducible refine(yP f _ H.o).mono ?_);rintro e w2 ⟨rfl,rfl⟩))
    refine wp_region_quiet_lit ξ ξ ?_
    repeat (go_big_quiet_step (fail))
    refine wpQuiet_nil ?_;intro _ M;obtain⟨nq,rfl⟩:=M
    go_wp2_with fail
    have ad:=λ(x:qt (w.alloc (.cells #[ι k.1,ι k.2] 169)))=>β0 (qq x.h J.o.blk)
    have ae: ∀x:qt (w.alloc (.cells #[ι k.1,ι k.2] 169)),x.w'.cell? ⟨w.heap.size,0,ϋ⟩=ϊ (ι k.1):=λx=>x.new 0 rfl
    have af: ∀x:qt (w.alloc (.cells #[ι k.1,ι k.2] 169)),x.w'.cell? ⟨w.heap.size,1,ϋ⟩=ϊ (ι k.2):=λx=>x.new 1 rfl
    refine Qn (w.alloc (.cells #[ι k.1,ι k.2] 169)) 6 7 [6] ?_
    refine Qq6 ?_
    obtain⟨w9,ac,aa,Y,_⟩:=(J.o.map.more (ql.drewN _ (nq+1))).update Ys underlying236 k f;unfold ke2 at ac;have ab:=κ aa;have O:=κ Y;clear aa Y
    (refine Qe ?_;intro K U)
    refine U _ _ ?_;clear U K;refine qA ?_;go_wp2;go_ret;rw[I.o];exact⟨rfl,(J.o.more (ql.drewN _ (nq+1))).put O.o (by have:=H.o;omega) ab.o,(jt.of_more (X8.dr _)).trans O.o⟩
   ·have d:zi m k f=(m,6):=by unfold zi;rw[ϐ H.o,ϐ hs,ώ hv]
    have I:=κ d;simp only[hs] at q;generalize (qh m k).getD 0=fv at *;have ah:(fv != 0)=ό:=by simpa using hv
    clear d hs hv
    go_enter func177,ntmps177
    go_wp2_with (go_at_call 166;((with_reducible refine(yP f _ H.o).mono ?_);rintro e w2 ⟨rfl,rfl⟩))
    refine wp_region_quiet_lit ξ ξ ?_
    repeat (go_big_quiet_step (fail))
    refine wpQuiet_nil ?_;intro _ M;obtain⟨nq,rfl⟩:=M;go_wp2;go_ret;rw[I.o];exact⟨rfl,J.o.more (ql.drewN _ _),jt.of_more (X8.dr _)⟩
 ·have d:zi m k f=(m,1):=by unfold zi;rw[ώ hf]
  have I:=κ d;have H:=κ hf;clear d q hf
  go_enter func177,ntmps177
  go_wp2_with (go_at_call 166;((with_reducible refine(Jh f _ H.o).mono ?_);rintro e w2 ⟨rfl,rfl⟩))
  go_ret;rw[I.o];exact⟨rfl,J.o,jt.of_more X8⟩
abbrev Og:=Int×Int
abbrev Sb:=Int×Bool×Int
structure TS where
 o:List (Int×Og)
 s:List (Og×Int)
 u:List (Int×Sb)
variable {t:TS}
def kO (k:Og):Value:= .agg #[.int .i64 k.1,.int .i64 k.2]
def vS (x:Sb):Value:= .agg #[.int .u32 x.1,.bool x.2.1,.int .i64 x.2.2]
def PK (a b:Og) (w:World):(Op.equal 58 (kO a) (kO b)).run prog w= .ok (decide (a=b)) w:=by
 have M:prog.stoodInHeld 58=ύ:=by kernel_rfl
 obtain⟨d,H⟩:=a;obtain⟨I,J⟩:=b;unfold Op.equal kO;rw[show Op.maxDepth=9999+1 from rfl,run_equalIn_agg w 9999 58 _ _ ξ M];simp[go_sem];by_cases e1:d=I<;>by_cases e2:H=J<;>simp[e1,e2]
def Ga (H:P.underlying d=ϊ (.int q)) (n:Nat) (I:0<n) (b:Bool) (x:Int) (w:World):(Instr.checkKey b n d (.int q x)).run P w= .ok () w:=by
 obtain⟨m,rfl⟩: ∃m,n=m+1:=⟨n-1,τ⟩;unfold Instr.checkKey;rw[Sem.run_bind,run_underlying H];rfl
def Yr:yz prog 58 kO:=
 yz.of_ask underlying58 (λa b=>by simp[Instr.sameNow]) PK (λb k w=>by
  rw[show (10000:Nat)=9999+1 from rfl];unfold Instr.checkKey kO
  simp[run_underlying underlying58,go_sem,Ga underlying3 9999 ζ]) (λk=>by simp[Instr.sameBits,kO])
def Aa:yz prog 38 (Value.int .u32):=Ab underlying38
def kE:yz prog 3 (Value.int .i64):=Ab underlying3
structure jq (w:World) (T a b c:Nat) (t:TS):Prop where
 blk:w.heap[T]? =ϊ (.cells #[.map (ϊ a),.map (ϊ b),.map (ϊ c)] 242 (0,0))
 mo:jk w a (Value.int .u32) kO t.o
 ms:jk w b kO (Value.int .u32) t.s
 mu:jk w c (Value.int .i64) vS t.u
 ab:a≠b
 ac:a≠c
 bc:b≠c
def KU {K V:Type} {b:Nat} {t:TypeId} {ke:K->Value} {I:V->Value} {L:List (K×V)} (h:w.heap[B]? =ϊ (.cells cs t (0,0))) (H:jk w b ke I L):B≠b:=by
 intro e;obtain⟨M,J,d,_⟩:=H.ex;rw[e,d] at h;cases h
def jq.more {b:Nat} (h:jq w T a b c t) (m:ql w w'):jq w' T a b c t:=⟨qq m h.blk,h.mo.more m,h.ms.more m,h.mu.more m,h.ab,h.ac,h.bc⟩
def jq.away {b:Nat} (h:jq w T a b c t) (m:jt S w w') (d: ¬S T) (H: ¬S a) (I: ¬S b) (J: ¬S c):jq w' T a b c t:=⟨m.blk h.blk d,h.mo.away m H,h.ms.away m I,h.mu.away m J,h.ab,h.ac,h.bc⟩
def jq.putO {b:Nat} (h:jq w T a b c t) (m:jt (λz=>z=a) w w') {o:List (Int×Og)} (d:jk w' a (Value.int .u32) kO o):jq w' T a b c {t with o:=o}:=
 ⟨m.blk h.blk (KU h.blk h.mo),d,h.ms.away m (λe=>h.ab e.symm),h.mu.away m (λe=>h.ac e.symm),h.ab,h.ac,h.bc⟩
def jq.putS {b:Nat} (h:jq w T a b c t) (m:jt (λz=>z=b) w w') {s:List (Og×Int)} (d:jk w' b kO (Value.int .u32) s):jq w' T a b c {t with s:=s}:=
 ⟨m.blk h.blk (KU h.blk h.ms),h.mo.away m h.ab,d,h.mu.away m (λe=>h.bc e.symm),h.ab,h.ac,h.bc⟩
def jq.putU {b:Nat} (h:jq w T a b c t) (m:jt (λz=>z=c) w w') {u:List (Int×Sb)} (d:jk w' c (Value.int .i64) vS u):jq w' T a b c {t with u:=u}:=
 ⟨m.blk h.blk (KU h.blk h.mu),h.mo.away m h.ac,h.ms.away m h.bc,d,h.ab,h.ac,h.bc⟩
def Aq (w:World):(zeroValue 58).run prog w= .ok (θ #[ι 0,ι 0]) w:=by kernel_rfl
def Ap (w:World):(zeroValue 38).run prog w= .ok (ω 0) w:=by kernel_rfl
def Vi (w:World):(zeroValue 298).run prog w= .ok (θ #[ω 0,ύ,ι 0]) w:=by kernel_rfl
def jq.lookO {b:Nat} (h:jq w T a b c t) (s:Int):
  (Instr.lookup 239 (.map (ϊ a)) (ω s) ό).run prog w= .ok (.tuple #[θ #[ι ((qh t.o s).getD (0,0)).1,ι ((qh t.o s).getD (0,0)).2],μ (qh t.o s).isSome]) w:=by
 rw[h.mo.look Aa underlying239 (Aq w) s ό];cases qh t.o s<;>rfl
def jq.lookS {b:Nat} (h:jq w T a b c t) (k:Og):
  (Instr.lookup 47 (.map (ϊ b)) (θ #[ι k.1,ι k.2]) ό).run prog w= .ok (.tuple #[ω ((qh t.s k).getD 0),μ (qh t.s k).isSome]) w:=by
 have:=h.ms.look Yr underlying47 (Ap w) k ό;unfold kO at this;rw[this];cases qh t.s k<;>rfl
def sb0:Sb:=(0,ύ,0)
def jq.lookU {b:Nat} (h:jq w T a b c t) (x:Int):
  (Instr.lookup 240 (.map (ϊ c)) (ι x) ό).run prog w= .ok (.tuple #[θ #[ω ((qh t.u x).getD sb0).1,μ ((qh t.u x).getD sb0).2.1,ι ((qh t.u x).getD sb0).2.2],μ (qh t.u x).isSome]) w:=by
 rw[h.mu.look kE underlying240 (Vi w) x ό];cases qh t.u x<;>rfl
def jq.lookU1 {b:Nat} (h:jq w T a b c t) (x:Int):
  (Instr.lookup 240 (.map (ϊ c)) (ι x) ύ).run prog w= .ok (θ #[ω ((qh t.u x).getD sb0).1,μ ((qh t.u x).getD sb0).2.1,ι ((qh t.u x).getD sb0).2.2]) w:=by
 rw[h.mu.look kE underlying240 (Vi w) x ύ];cases qh t.u x<;>rfl
def Mv (w:World):Calls prog 44 #[] w λe w'=> ∃T a b c,e= .returned (γ T)/\w.heap.size<=T/\w.heap.size<=a/\w.heap.size<=b/\w.heap.size<=c/\jq w' T a b c ⟨[],[],[]⟩/\ql w w':=by
 go_enter func44,ntmps44
 have d:= @run_makeMap prog;go_wp2;go_ret;refine⟨w.heap.size+3,w.heap.size,w.heap.size+1,w.heap.size+2,η,τ,τ,τ,τ,⟨qC η,(jk.made w _ _).more ((X8.al _).al _), ?_, ?_,τ,τ,τ⟩,((X8.al _).al _).al _⟩
 ·have:=(jk.made (w.alloc (.map #[] 0)) kO (Value.int .u32)).more ((ql.alloc _ (.map #[] 0)).al (.cells #[.map (ϊ w.heap.size),.map (ϊ (w.heap.size+1)),.map (ϊ (w.heap.size+2))] 242))
  simpa using this
 ·have:=(jk.made ((w.alloc (.map #[] 0)).alloc (.map #[] 0)) (Value.int .i64) vS).more (ql.alloc _ (.cells #[.map (ϊ w.heap.size),.map (ϊ (w.heap.size+1)),.map (ϊ (w.heap.size+2))] 242))
  simpa using this
def Le {b:Nat} (h:jq w T a b c t) (s:Int):
  Calls prog 131 #[γ T,ω s] w λe w'=>e= .returned (.tuple #[θ #[ι ((qh t.o s).getD (0,0)).1,ι ((qh t.o s).getD (0,0)).2],μ (qh t.o s).isSome])/\ql w w':=by
 have d:=h.more (ql.alloc w (.cells #[ι 0,ι 0] 58));have H:=β0 d.blk;have q:=d.lookO s;clear d h;generalize (qh t.o s).getD (0,0)=x at *
 go_enter func131,ntmps131
 go_wp2
 (refine bodyPost_ret (v:= .tuple #[θ #[ι x.1,ι x.2],μ (qh t.o s).isSome]) ?rr1 rfl ?_;(case rr1=>(simp[results,results131,go_sem])))
 exact⟨rfl,X8.al _⟩
def CC {b:Nat} (h:jq w T a b c t) (k:Og):
  Calls prog 143 #[γ T,θ #[ι k.1,ι k.2]] w λe w'=>e= .returned (.tuple #[ω ((qh t.s k).getD 0),μ (qh t.s k).isSome])/\ql w w':=by
 have d:=h.more (ql.alloc w (.cells #[ι k.1,ι k.2] 58));have I:=β1 d.blk;have q:=λn=>(d.more (ql.drewN _ n)).lookS k
 clear d h
 go_enter func143,ntmps143
 go_wp2;refine wp_region_quiet_lit ξ ξ ?_
 repeat (go_big_quiet_step (fail))
 refine wpQuiet_nil ?_;intro _ H;obtain⟨nq,rfl⟩:=H;go_wp2
 go_ret2
 exact⟨rfl,X8.dr _⟩
def LH {b:Nat} (h:jq w T a b c t) (x:Int):
  Calls prog 90 #[γ T,ι x] w λe w'=>e= .returned (.tuple #[ι ((qh t.u x).getD sb0).2.2,μ ((qh t.u x).getD sb0).2.1])/\ql w w':=by
 have H:=β2 h.blk;have q:=h.lookU1 x;clear h;generalize (qh t.u x).getD sb0=y at *
 go_enter func90,ntmps90
 go_wp2;refine wp_region_quiet_lit ξ ξ ?_
 repeat (go_big_quiet_step (fail))
 refine wpQuiet_nil ?_;intro _ d;obtain⟨nq,rfl⟩:=d;go_wp2
 go_ret2
 exact⟨rfl,X8.dr _⟩
def yC {b:Nat} (h:jq w T a b c t) (p:Int):
  Calls prog 165 #[γ T,ι p] w λe w'=>e= .returned (μ (qh t.s (p,0)).isSome)/\w=w':=by
 have d:=β1 h.blk;have q:=h.lookS (p,0);simp only at q;clear h
 go_enter func165,ntmps165
 go_wp2;go_ret;exact⟨rfl,rfl⟩
def vw (p:Int) (w:World) (h:0<=p/\p<3):Calls prog 163 #[ι p] w λe w'=>e= .returned (μ ό)/\w=w':=by
 obtain⟨d,H⟩:=h
 go_enter func163,ntmps163
 go_wp2;go_ret;exact⟨qZ (by simp<;>omega),rfl⟩
def Z8 (p:Int) (w:World) (h: ¬(0<=p/\p<3)):Calls prog 163 #[ι p] w λe w'=>e= .returned (μ ύ)/\w=w':=by
 have d:p<0∨(0<=p/\3<=p):=by omega
 clear h;rcases d with h1 | ⟨h1,h2⟩
 ·go_enter func163,ntmps163
  go_wp2;go_ret;exact⟨qZ η,rfl⟩
 ·go_enter func163,ntmps163
  go_wp2;go_ret;exact⟨qZ (by simp<;>omega),rfl⟩
def xe (p:Int) (w:World) (h:0<=p/\p<6):Calls prog 145 #[ι p] w λe w'=>e= .returned (μ ό)/\w=w':=by
 obtain⟨d,H⟩:=h
 go_enter func145,ntmps145
 go_wp2;go_ret;exact⟨qZ (by simp<;>omega),rfl⟩
def wl (p:Int) (w:World) (h: ¬(0<=p/\p<6)):Calls prog 145 #[ι p] w λe w'=>e= .returned (μ ύ)/\w=w':=by
 have d:p<0∨(0<=p/\6<=p):=by omega
 clear h;rcases d with h1 | ⟨h1,h2⟩
 ·go_enter func145,ntmps145
  go_wp2;go_ret;exact⟨qZ η,rfl⟩
 ·go_enter func145,ntmps145
  go_wp2;go_ret;exact⟨qZ (by simp<;>omega),rfl⟩
def yI (t:TS) (x own:Int):TS×Int:=if 0<=x/\x<6 then (if (qh t.u x).isSome then (t,6) else ({t with u:=qx t.u x (own,ύ,0)},0)) else (t,1)
def zW (t:TS) (x:Int):TS×Int:=if 0<=x/\x<6 then (if (qh t.u x).isSome then ({t with u:=yK t.u x},0) else (t,5)) else (t,1)
def vL (t:TS) (x p:Int):TS×Int:=if (0<=x/\x<6)/\(0<=p/\p<3) then (if (qh t.u x).isSome/\(qh t.s (p,0)).isSome then (if ((qh t.u x).getD sb0).2.1 then (t,6) else ({t with u:=qx t.u x (((qh t.u x).getD sb0).1,ό,p)},0)) else (t,5)) else (t,1)
def zM (t:TS) (x:Int):TS×Int:=if 0<=x/\x<6 then (if (qh t.u x).isSome/\((qh t.u x).getD sb0).2.1 then ({t with u:=qx t.u x (((qh t.u x).getD sb0).1,ύ,0)},0) else (t,5)) else (t,1)
def jB {f:FuncId} {args:Array Value} {b:Nat} {r:TS×Int} {t':TS} {v:Int} (hr:r=(t',v)) (h:Calls P f args w λe w'=>e= .returned (ι v)/\jq w' T a b c t'/\jt (λz=>z=c) w w'):
  Calls P f args w λe w'=>e= .returned (ι r.2)/\jq w' T a b c r.1/\jt (λz=>z=c) w w':=by
 subst hr;exact h
def Ld {b:Nat} (h:jq w T a b c t) (x own:Int):
  Calls prog 87 #[γ T,ι x,ω own] w λe w'=>e= .returned (ι (yI t x own).2)/\jq w' T a b c (yI t x own).1/\jt (λz=>z=c) w w':=by
 have c2:=β2 h.blk;have q:=h.lookU x;have HT:=κ h;by_cases hx:0<=x/\x<6
 ·have HX:=κ hx;obtain⟨y,hy⟩:=ν ((qh t.u x).getD sb0);rw[hy] at q;clear hy;cases hs:(qh t.u x).isSome with
  | true=>
   refine jB (t':=t) (v:=6) (by unfold yI;rw[ϐ hx,ϐ hs]) ?_;rw[hs] at q;clear hx hs h
   go_enter func87,ntmps87
   go_wp2_with (go_at_call 145;(go_call xe x _ HX.o as e w2 ⟨rfl,rfl⟩))
   go_ret;exact⟨rfl,HT.o.more X8,jt.of_more X8⟩
  | false=>
   refine jB (t':={t with u:=qx t.u x (own,ύ,0)}) (v:=0) (by unfold yI;rw[ϐ hx,hs];rfl) ?_;rw[hs] at q;clear hx hs h;have c3:=β2 (qs HT.o.blk (.cells #[ω y.1,y.2.1,ι y.2.2] 298));obtain⟨w9,hr,hm,ha,_⟩:=(HT.o.mu.more (ql.alloc w (.cells #[ω y.1,y.2.1,ι y.2.2] 298))).update kE underlying240 x (own,ύ,0);unfold vS at hr;simp only at hr;have HM:=κ hm;have HA:=κ ha;clear hm ha
   go_enter func87,ntmps87
   go_wp2_with (go_at_call 145;(go_call xe x _ HX.o as e w2 ⟨rfl,rfl⟩))
   go_ret;exact⟨rfl,(HT.o.more (ql.alloc w _)).putU HA.o HM.o,(jt.of_more X8).trans HA.o⟩
 ·have HX:=κ hx;refine jB (t':=t) (v:=1) (by unfold yI;rw[ώ hx]) ?_;clear hx q
  go_enter func87,ntmps87
  go_wp2_with (go_at_call 145;(go_call wl x _ HX.o as e w2 ⟨rfl,rfl⟩))
  go_ret;exact⟨rfl,HT.o,jt.refl _ _⟩
def qbC {b:Nat} (h:jq w T a b c t) (x:Int):
  Calls prog 106 #[γ T,ι x] w λe w'=>e= .returned (ι (zW t x).2)/\jq w' T a b c (zW t x).1/\jt (λz=>z=c) w w':=by
 have c2:=β2 h.blk;have q:=h.lookU x;have HT:=κ h;by_cases hx:0<=x/\x<6
 ·have HX:=κ hx;obtain⟨y,hy⟩:=ν ((qh t.u x).getD sb0);rw[hy] at q;clear hy;cases hs:(qh t.u x).isSome with
  | false=>
   refine jB (t':=t) (v:=5) (by unfold zW;rw[ϐ hx,hs];rfl) ?_;rw[hs] at q;clear hx hs h
   go_enter func106,ntmps106
   go_wp2_with (go_at_call 145;(go_call xe x _ HX.o as e w2 ⟨rfl,rfl⟩))
   go_ret;exact⟨rfl,HT.o.more X8,jt.of_more X8⟩
  | true=>
   refine jB (t':={t with u:=yK t.u x}) (v:=0) (by unfold zW;rw[ϐ hx,ϐ hs]) ?_;rw[hs] at q;clear hx hs h;have c3:=β2 (qs HT.o.blk (.cells #[ω y.1,y.2.1,ι y.2.2] 298));obtain⟨w9,hr,hm,ha,_⟩:=(HT.o.mu.more (ql.alloc w (.cells #[ω y.1,y.2.1,ι y.2.2] 298))).drop kE underlying240 x 0;have hr: ∀ty,(Builtin.delete_ #[240,3] ty #[.map (ϊ c),ι x]).run prog (w.alloc (.cells #[ω y.1,y.2.1,ι y.2.2] 298))= .ok (.tuple #[]) w9:=λ_=>hr
   have HM:=κ hm;have HA:=κ ha;clear hm ha
   go_enter func106,ntmps106
   go_wp2_with (go_at_call 145;(go_call xe x _ HX.o as e w2 ⟨rfl,rfl⟩))
   go_ret;exact⟨rfl,(HT.o.more (ql.alloc w _)).putU HA.o HM.o,(jt.of_more X8).trans HA.o⟩
 ·have HX:=κ hx;refine jB (t':=t) (v:=1) (by unfold zW;rw[ώ hx]) ?_;clear hx q
  go_enter func106,ntmps106
  go_wp2_with (go_at_call 145;(go_call wl x _ HX.o as e w2 ⟨rfl,rfl⟩))
  go_ret;exact⟨rfl,HT.o,jt.refl _ _⟩
def Jf {b:Nat} (h:jq w T a b c t) (x p:Int):
  Calls prog 105 #[γ T,ι x,ι p] w λe w'=>e= .returned (ι (vL t x p).2)/\jq w' T a b c (vL t x p).1/\jt (λz=>z=c) w w':=by
 have c2:=β2 h.blk;have q:=h.lookU x;have HT:=κ h;by_cases hx:0<=x/\x<6
 ·have HX:=κ hx;by_cases hp:0<=p/\p<3
  ·have HP:=κ hp;obtain⟨y,hy⟩:=ν ((qh t.u x).getD sb0);cases hs:(qh t.u x).isSome with
   | false=>
    refine jB (t':=t) (v:=5) (by unfold vL;rw[ϐ ⟨hx,hp⟩,hs];rfl) ?_;rw[hs,hy] at q;clear hx hs h hp hy
    go_enter func105,ntmps105
    go_wp2_with first | (go_at_call 145;(go_call xe x _ HX.o as e w2 ⟨rfl,rfl⟩)) | (go_at_call 163;(go_call vw p _ HP.o as e w2 ⟨rfl,rfl⟩))
    go_ret;exact⟨rfl,HT.o.more X8,jt.of_more X8⟩
   | true=>
    cases hps:(qh t.s (p,0)).isSome with
    | false=>
     refine jB (t':=t) (v:=5) (by unfold vL;rw[ϐ ⟨hx,hp⟩,hps];simp) ?_;have HPS:=κ hps;rw[hs,hy] at q;clear hx hs h hp hy hps
     go_enter func105,ntmps105
     go_wp2_with first | (go_at_call 145;(go_call xe x _ HX.o as e w2 ⟨rfl,rfl⟩)) | (go_at_call 163;(go_call vw p _ HP.o as e w2 ⟨rfl,rfl⟩)) | (go_at_call 165;(go_call yC (HT.o.more (ql.alloc w (.cells #[ω y.1,y.2.1,ι y.2.2] 298))) p as e w2 ⟨rfl,rfl⟩;rw[HPS.o]))
     go_ret;exact⟨rfl,HT.o.more X8,jt.of_more X8⟩
    | true=>
     have HPS:=κ hps;cases hb:y.2.1 with
     | true=>
      refine jB (t':=t) (v:=6) (by unfold vL;rw[ϐ ⟨hx,hp⟩,ϐ ⟨hs,hps⟩,hy,hb];rfl) ?_;rw[hs,hy,hb] at q;clear hx hs h hp hy hps hb
      go_enter func105,ntmps105
      go_wp2_with first | (go_at_call 145;(go_call xe x _ HX.o as e w2 ⟨rfl,rfl⟩)) | (go_at_call 163;(go_call vw p _ HP.o as e w2 ⟨rfl,rfl⟩)) | (go_at_call 165;(go_call yC (HT.o.more (ql.alloc w (.cells #[ω y.1,ό,ι y.2.2] 298))) p as e w2 ⟨rfl,rfl⟩;rw[HPS.o]))
      go_ret;exact⟨rfl,HT.o.more X8,jt.of_more X8⟩
     | false=>
      refine jB (t':={t with u:=qx t.u x (y.1,ό,p)}) (v:=0) (by unfold vL;rw[ϐ ⟨hx,hp⟩,ϐ ⟨hs,hps⟩,hy,hb];rfl) ?_;rw[hs,hy] at q;rw[hb] at q;clear hx hs h hp hy hps hb;have L0: ∀z:qt (w.alloc (.cells #[ω y.1,ύ,ι y.2.2] 298)),z.w'.cell? ⟨T,2,ϋ⟩=ϊ (.map (ϊ c)):=λz=>qm (qq z.h (qs HT.o.blk _)) 2 rfl
      have L1: ∀z:qt (w.alloc (.cells #[ω y.1,ύ,ι y.2.2] 298)),z.w'.cell? ⟨w.heap.size,0,ϋ⟩=ϊ (ω y.1):=λz=>z.new 0 rfl
      obtain⟨w9,hr,hm,ha,_⟩:=((HT.o.mu.more (ql.alloc w (.cells #[ω y.1,ύ,ι y.2.2] 298))).more (ql.drewN _ 1)).update kE underlying240 x (y.1,ό,p);unfold vS at hr;simp only at hr;have HM:=κ hm;have HA:=κ ha;clear hm ha
      go_enter func105,ntmps105
      go_wp2_with first | (go_at_call 145;(go_call xe x _ HX.o as e w2 ⟨rfl,rfl⟩)) | (go_at_call 163;(go_call vw p _ HP.o as e w2 ⟨rfl,rfl⟩)) | (go_at_call 165;(go_call yC (HT.o.more (ql.alloc w (.cells #[ω y.1,ύ,ι y.2.2] 298))) p as e w2 ⟨rfl,rfl⟩;rw[HPS.o]))
      refine Qn (w.alloc (.cells #[ω y.1,ύ,ι y.2.2] 298)) 9 10 [9] ?_
      refine Qq9 ?_
      (refine Qe ?_;intro K hK)
      refine hK _ _ ?_;clear hK K;refine qA ?_;go_wp2;go_ret;exact⟨rfl,((HT.o.more (ql.alloc w _)).more (ql.drewN _ 1)).putU HA.o HM.o,(jt.of_more (X8.dr 1)).trans HA.o⟩
  ·have HP:=κ hp;refine jB (t':=t) (v:=1) (by unfold vL;rw[ώ (λh=>hp h.2)]) ?_;clear hx q hp
   go_enter func105,ntmps105
   go_wp2_with first | (go_at_call 145;(go_call xe x _ HX.o as e w2 ⟨rfl,rfl⟩)) | (go_at_call 163;(go_call Z8 p _ HP.o as e w2 ⟨rfl,rfl⟩))
   go_ret;exact⟨rfl,HT.o,jt.refl _ _⟩
 ·have HX:=κ hx;refine jB (t':=t) (v:=1) (by unfold vL;rw[ώ (λh=>hx h.1)]) ?_;clear hx q
  go_enter func105,ntmps105
  go_wp2_with (go_at_call 145;(go_call wl x _ HX.o as e w2 ⟨rfl,rfl⟩))
  go_ret;exact⟨rfl,HT.o,jt.refl _ _⟩
def Zr {b:Nat} (h:jq w T a b c t) (x:Int):
  Calls prog 123 #[γ T,ι x] w λe w'=>e= .returned (ι (zM t x).2)/\jq w' T a b c (zM t x).1/\jt (λz=>z=c) w w':=by
 have c2:=β2 h.blk;have q:=h.lookU x;have HT:=κ h;by_cases hx:0<=x/\x<6
 ·have HX:=κ hx;obtain⟨y,hy⟩:=ν ((qh t.u x).getD sb0);cases hs:(qh t.u x).isSome with
  | false=>
   refine jB (t':=t) (v:=5) (by unfold zM;rw[ϐ hx,hs];rfl) ?_;rw[hs,hy] at q;clear hx hs h hy
   go_enter func123,ntmps123
   go_wp2_with (go_at_call 145;(go_call xe x _ HX.o as e w2 ⟨rfl,rfl⟩))
   go_ret;exact⟨rfl,HT.o.more X8,jt.of_more X8⟩
  | true=>
   cases hb:y.2.1 with
   | false=>
    refine jB (t':=t) (v:=5) (by unfold zM;rw[ϐ hx,hy,hb];simp) ?_;rw[hs,hy,hb] at q;clear hx hs h hy hb
    go_enter func123,ntmps123
    go_wp2_with (go_at_call 145;(go_call xe x _ HX.o as e w2 ⟨rfl,rfl⟩))
    go_ret;exact⟨rfl,HT.o.more X8,jt.of_more X8⟩
   | true=>
    refine jB (t':={t with u:=qx t.u x (y.1,ύ,0)}) (v:=0) (by unfold zM;rw[ϐ hx,hy,hb,hs];rfl) ?_;rw[hs,hy,hb] at q;clear hx hs h hy hb;have L0: ∀z:qt (w.alloc (.cells #[ω y.1,ό,ι y.2.2] 298)),z.w'.cell? ⟨T,2,ϋ⟩=ϊ (.map (ϊ c)):=λz=>qm (qq z.h (qs HT.o.blk _)) 2 rfl
    have L1: ∀z:qt (w.alloc (.cells #[ω y.1,ό,ι y.2.2] 298)),z.w'.cell? ⟨w.heap.size,0,ϋ⟩=ϊ (ω y.1):=λz=>z.new 0 rfl
    obtain⟨w9,hr,hm,ha,_⟩:=((HT.o.mu.more (ql.alloc w (.cells #[ω y.1,ό,ι y.2.2] 298))).more (ql.drewN _ 1)).update kE underlying240 x (y.1,ύ,0);unfold vS at hr;simp only at hr;have HM:=κ hm;have HA:=κ ha;clear hm ha
    go_enter func123,ntmps123
    go_wp2_with (go_at_call 145;(go_call xe x _ HX.o as e w2 ⟨rfl,rfl⟩))
    refine Qn (w.alloc (.cells #[ω y.1,ό,ι y.2.2] 298)) 8 9 [8] ?_
    refine Qq8 ?_
    (refine Qe ?_;intro K hK)
    refine hK _ _ ?_;clear hK K;refine qA ?_;go_wp2;go_ret;exact⟨rfl,((HT.o.more (ql.alloc w _)).more (ql.drewN _ 1)).putU HA.o HM.o,(jt.of_more (X8.dr 1)).trans HA.o⟩
 ·have HX:=κ hx;refine jB (t':=t) (v:=1) (by unfold zM;rw[ώ hx]) ?_;clear hx q
  go_enter func123,ntmps123
  go_wp2_with (go_at_call 145;(go_call wl x _ HX.o as e w2 ⟨rfl,rfl⟩))
  go_ret;exact⟨rfl,HT.o,jt.refl _ _⟩
abbrev qQ:=Int×Int×List Int×Unit
variable {acc:List qQ}
def yH:qL qQ:=zf 1 (yW .u8) (zf 1 (yW .u8) (zf 1 (RSl 1 (yW .u8)) Gp))
def xu:qQ:=(0,0,[],())
structure xk (c:qQ):Prop where
 n:0<=c.1/\c.1<=255
 t:0<=c.2.1/\c.2.1<=255
 byt:Byt c.2.2.1
def DH (h:0<=n/\n<=255):(Lit.int .u8 n).wf=ό:=by
 simp[Lit.wf,IntKind.min,IntKind.max,IntKind.signed,IntKind.bits];omega
def IW (h:Byt l): ∀n∈l,(Lit.int .u8 n).wf=ό:=by
 intro n d;obtain⟨i,hi,rfl⟩:=A0.1 d;have:=h i;rw[ϒ,ϖ hi,ϣ] at this;exact DH this
def Co {cs:List Value} {c:qQ} (h:yH w cs c) (N:cs.length=3): ∃vb,cs=[υ c.1,υ c.2.1,vb]/\SlI .u8 w vb c.2.2.1/\xk c:=by
 match cs,N with
 | [k0,k1,k2],_=>
  obtain⟨⟨d,J⟩,⟨H,M⟩,⟨vb,I,s2⟩,_⟩:=h;simp at d H I;subst d H I;exact⟨k2,rfl,s2.ints.1,⟨bounds_u8 J,bounds_u8 M,Byt.of_wf s2.ints.2⟩⟩
def VU {c:qQ} (s:SlI .u8 w vb c.2.2.1) (h:xk c):yH w [υ c.1,υ c.2.1,vb] c:=
 ⟨⟨rfl,DH h.n⟩,⟨rfl,DH h.t⟩,⟨vb,rfl,SlP.of_ints s (IW h.byt)⟩,rfl⟩
structure JE (w:World) (b off i:Nat) (c:qQ) (vb:Value):Prop where
 c0:w.cell? ⟨b,off+i* 3,ϋ⟩=ϊ (.int .u8 c.1)
 c1:w.cell? ⟨b,off+i* 3+1,ϋ⟩=ϊ (.int .u8 c.2.1)
 c2:w.cell? ⟨b,off+i* 3+2,ϋ⟩=ϊ vb
 sl:SlI .u8 w vb c.2.2.1
 ok:xk c
def JE.more {b H:Nat} {t:qQ} (h:JE w b H i t vb) (m:ql w w') (d:b<w.heap.size):JE w' b H i t vb:=by
 obtain⟨I,J,M,N,O⟩:=h;exact⟨by rw[m.cells b _ d];exact I,by rw[m.cells b _ d];exact J,by rw[m.cells b _ d];exact M,N.keep m,O⟩
def Ae {l:List qQ} (h:SlP 3 yH w v l): ∃d cap,v= δ d l.length cap/\(l.length:Int)<=9223372036854775807/\ ∀i,i<l.length-> ∃b H vb,d=ϊ ⟨b,H,ϋ⟩/\b<w.heap.size/\JE w b H i (l.getD i xu) vb:=by
 obtain⟨d,cap,O,U,Y,_⟩:=h;refine⟨d,cap,O,U,λi hi=> ?_⟩;obtain⟨b,H,cs,e,aa,ac,I,ad⟩:=Y i hi;have e0:=I 0 τ;have J:=I 1 τ;have M:=I 2 τ;have N:l.getD i xu=l[i]:=by simp[hi]
 rw[N];obtain⟨vb,rfl,ae,ab⟩:=Co ad ac;simp at e0 J M;exact⟨b,H,vb,e,aa,e0,J,M,ae,ab⟩
def jx (c:qQ):Bool:=decide (c.1<=31/\c.2.2.1.length%4=0/\c.2.2.1.length<=196)
def xR (c:qQ) (N:SlI .u8 w vb c.2.2.1) (U:c.2.2.1.length<=1000000):
  Calls prog 260 #[θ #[υ c.1,υ c.2.1,vb]] w λe w'=>e= .returned (μ (jx c))/\ql w w':=by
 obtain⟨k,n,b,⟨⟩⟩:=c;simp only at *;obtain⟨O,M,rfl,_⟩:=N;have I:=ql.alloc w (.cells #[υ k,υ n,δ O b.length M] 291);by_cases h1:k<=31
 ·by_cases h2:b.length%4=0
  ·by_cases h3:b.length<=196
   ·have d:jx (k,n,b,())=ό:=by unfold jx;simp[h1,h2,h3]
    have H:=κ d;clear d;have J:((b.length:Int)).tmod 4=0:=by rw[D8 τ];omega
    go_enter func260,ntmps260
    go_wp2
    all_goals (go_ret;exact⟨by rw[H.o];first | rfl | exact qZ (Ϫ τ) | exact qZ (Ϩ τ),I⟩)
   ·have d:jx (k,n,b,())=ύ:=by unfold jx;simp[h3]
    have H:=κ d;clear d;have J:((b.length:Int)).tmod 4=0:=by rw[D8 τ];omega
    go_enter func260,ntmps260
    go_wp2
    all_goals (go_ret;exact⟨by rw[H.o];first | rfl | exact qZ (Ϫ τ) | exact qZ (Ϩ τ),I⟩)
  ·have d:jx (k,n,b,())=ύ:=by unfold jx;simp[h2]
   have H:=κ d;clear d;have J: ¬((b.length:Int)).tmod 4=0:=by rw[D8 τ];omega
   go_enter func260,ntmps260
   go_wp2
   all_goals (go_ret;exact⟨by rw[H.o];first | rfl | exact qZ (Ϫ τ) | exact qZ (Ϩ τ),I⟩)
 ·have d:jx (k,n,b,())=ύ:=by unfold jx;simp[h1]
  have H:=κ d;clear d
  go_enter func260,ntmps260
  go_wp2
  all_goals (go_ret;exact⟨by rw[H.o];first | rfl | exact qZ (Ϫ τ) | exact qZ (Ϩ τ),I⟩)
def zS {t:Nat} (d:B=w.heap.size): ∀j u,cs.toList[j]? =ϊ u->(w.alloc (.cells cs t)).cell? ⟨B,j,ϋ⟩=ϊ u:=by
 intro j u h;subst d;exact qm (qj w _) j (by simpa using h)
def kv (l:List α) (j:Nat) (d:α) (h:j<l.length):l.take (j+1)=l.take j++[l.getD j d]:=by
 rw[A9,ϖ h];simp[h]
def chB (c:qQ):List Int:=qy (128+c.1) 1++(qy c.2.1 1++(qy ((c.2.2.1.length:Int)/4) 2++c.2.2.1))
def flC (l:List qQ):List Int:=l.flatMap chB
def szC (l:List qQ):Nat:=(l.map λc=>4+c.2.2.1.length).sum
def YJ (c:qQ):(chB c).length=4+c.2.2.1.length:=by
 unfold chB;simp[qK];omega
def YH (l:List qQ):(flC l).length=szC l:=by
 induction l with
 | nil=>rfl
 | cons c l ih=>
  have e:flC (c::l)=chB c++flC l:=rfl;have d:szC (c::l)=4+c.2.2.1.length+szC l:=by simp[szC]
  rw[e,d,Ϗ,YJ,ih]
def Ck (l:List qQ) (j:Nat) (h:j<l.length):flC (l.take (j+1))=flC (l.take j)++chB (l.getD j xu):=by
 unfold flC;rw[kv l j xu h,P0];simp
def JZ (l:List qQ) (j:Nat) (h:j<l.length):szC (l.take (j+1))=szC (l.take j)+(4+(l.getD j xu).2.2.1.length):=by
 unfold szC;rw[kv l j xu h,ϻ,List.sum_append];simp
def DX (l:List qQ) (j:Nat):szC (l.take j)<=szC l:=by
 conv=>rhs;rw[<-B6 j l]
 unfold szC;rw[ϻ,List.sum_append];omega
def vW (l:List qQ):List Int×Int:=if l.all jx=ύ then ([],1) else if 200<szC l then ([],4) else (flC l,0)
def zO (c:qQ):jx c=ό↔c.1<=31/\c.2.2.1.length%4=0/\c.2.2.1.length<=196:=by unfold jx;simp
def PA {l:List qQ} (hi:i<l.length) (h:jx (l.getD i xu)=ύ):vW l=([],1):=by
 unfold vW;rw[ϐ];rw[List.all_eq_false];exact⟨l.getD i xu,by simp[hi],by rw[h];simp⟩
def PB {l:List qQ} (h: ∀i,i<l.length->jx (l.getD i xu)=ό):l.all jx=ό:=by
 rw[I4];intro c d;obtain⟨i,hi,rfl⟩:=A0.1 d;have:=h i hi
 simpa [hi] using this
def Dy (v:Value) (l:List qQ) (w:World) (sl:SlP 3 yH w v l) (bn:l.length<=100000) (ac: ∀i,i<l.length->(l.getD i xu).2.2.1.length<=1000000):
  Calls prog 206 #[v] w λe w'=> ∃vx,e= .returned (.tuple #[vx,ι (vW l).2])/\SlI .u8 w' vx (vW l).1/\ql w w'/\ ∀b,vx.ownBlock=ϊ b->w.heap.size<=b:=by
 obtain⟨bu,cap,rfl,bo,U⟩:=Ae sl;clear sl
 go_enter func206,ntmps206
 go_wp2
 go_loopw [4,12] (λs i wr=> ∃j:Nat,j<=l.length/\i= ι j/\s= ι (szC (l.take j):Nat)/\szC (l.take j)<=200* j/\(∀i,i<j->jx (l.getD i xu)=ό)/\ql w wr) (λ_ i _=>l.length-(intOf i).toNat)
 case atStart=>exact⟨0,τ,rfl,rfl,by simp[szC],λi hi=>by omega,ql.refl _⟩
 case round=>
  obtain⟨j,H,rfl,rfl,aK,O,d⟩:=hrel;by_cases hlt:j<l.length
  ·obtain⟨b,bd,vb,rfl,I,N⟩:=U j hlt;have bt:=κ N;obtain⟨ar,c1,c2,Y,aD⟩:=N.more d I;have aX:(j:Int)<(l.length:Int):=by omega
   have aF:=κ (Y.keep (ql.alloc wr (.cells #[υ (l.getD j xu).1,υ (l.getD j xu).2.1,vb] 291)));obtain⟨aO,au,rfl,_⟩:=Y;have aa:=κ (JZ l j hlt);have av:=ac j hlt;have M:=κ (λh=>PA (l:=l) hlt h);have ae:=κ O
   have aR:Hid (∀b,jx (l.getD j xu)=b->b=ό->(l.getD j xu).2.2.1.length<=196/\ ∀i,i<j+1->jx (l.getD i xu)=ό):=κ (λb e h=>by
    subst e;refine⟨((zO _).1 h).2.2,λi hi=> ?_⟩;by_cases e:i<j
    ·exact ae.o i e
    ·obtain rfl:i=j:=by omega
     exact h)
   clear U N O ac;generalize aW:l.getD j xu=c at *;clear aW;generalize szC (l.take j)=z at *;cases J:jx c with
   | true=>
    obtain⟨bj,aC⟩:=aR.o ό J rfl;have aQ:=κ aC;clear aC
    go_wp2_with (go_at_call 260;refine(xR c aF.o av).mono ?_;rintro e w6 ⟨rfl,ad⟩;rw[J];have ah:=(d.al _).trans ad;have bv:=β2 (qq ad (qj wr _)))
    go_roundw
    case rel=>exact⟨j+1,τ,by go_num,by rw[aa.o];go_num,by rw[aa.o];omega,aQ.o,ah⟩
    case measure=>simp[intOf];omega
   | false=>
    have H:=M.o J
    go_wp2_with (go_at_call 260;refine(xR c aF.o av).mono ?_;rintro e w6 ⟨rfl,ad⟩;rw[J];have ah:=(d.al _).trans ad)
    refine bodyPost_ret (v:= .tuple #[δ ϋ 0 0,ι 1]) (by simp[results,results206,go_sem]) rfl ?_;exact⟨_,by rw[H],by rw[H];exact SlI.nil _ _,ah,λb I=>by cases I⟩
  ·obtain rfl:j=l.length:=by omega
   rw[ϱ] at *;have ay:=PB O;by_cases h200:200<szC l
   ·have H:vW l=([],4):=by unfold vW;rw[ώ (by rw[ay];simp),ϐ h200]
    have M:=κ H;have aS:(200:Int)<(szC l:Int):=by omega
    clear H U ac O;go_wp2;refine bodyPost_ret (v:= .tuple #[δ ϋ 0 0,ι 4]) (by simp[results,results206,go_sem]) rfl ?_;exact⟨_,by rw[M.o],by rw[M.o];exact SlI.nil _ _,d,λb I=>by cases I⟩
   ·have H:vW l=(flC l,0):=by unfold vW;rw[ώ (by rw[ay];simp),ώ h200]
    have M:=κ H;have aS: ¬(200:Int)<(szC l:Int):=by omega
    have ae:=κ O;clear H ac O;go_wp2;have aU:=wR wr;have aT:=d.al (.cells #[δ ϋ 0 0] 204);have aV:=d.size;generalize bk:wr.heap.size=W at *
    go_loopw [30] (λi wr=> ∃j:Nat,j<=l.length/\i= ι j/\(∃v,j5 wr W v (flC (l.take j)))/\ql w wr) (λi _=>l.length-(intOf i).toNat)
    case atStart=>exact⟨0,τ,rfl,⟨_,aU⟩,aT⟩
    case round=>
     obtain⟨j,H,rfl,⟨v,J⟩,d⟩:=hrel;by_cases hlt:j<l.length
     ·obtain⟨b,bd,vb,rfl,I,N⟩:=U j hlt;obtain⟨ar,c1,c2,Y,aD⟩:=N.more d I;have aX:(j:Int)<(l.length:Int):=by omega
      have ax:=Ck l j hlt;have aK:(flC (l.take j)).length<=200:=by rw[YH];have:=DX l j;omega
      have aE:=(zO _).1 (ae.o j hlt);have an:=κ ax;have aa:=κ Y;have ao:=κ N.sl;obtain⟨aO,au,rfl,_⟩:=Y;clear U N ax;generalize l.getD j xu=c at *;obtain⟨k,n,q,⟨⟩⟩:=c;simp only at ar c1 c2 aE;generalize flC (l.take j)=acc at *;obtain⟨⟨aY,bm⟩,⟨aZ,ba⟩,bp⟩:=aD;obtain⟨bq,br,bs⟩:=aE;change 0<=k at aY;change 0<=n at aZ;change n<=255 at ba;change Hid (SlI .u8 wr _ q) at aa;change Hid (SlI .u8 w _ q) at ao;change Hid (_=acc++chB (k,n,q,())) at an;have az:0<=128+k/\128+k<=255:=by omega
      have aA:0<=n/\n<=255:=by omega
      have aB:0<=(q.length:Int)/4/\(q.length:Int)/4<=65535:=by omega
      have aL:(acc++qy (128+k) 1).length<=1000000:=by rw[Ϗ,qK _ _ ζ];omega
      have aM:(acc++qy (128+k) 1++qy n 1).length<=1000000:=by rw[Ϗ,Ϗ,qK _ _ ζ,qK _ _ ζ];omega
      have aN:(acc++qy (128+k) 1++qy n 1++qy ((q.length:Int)/4) 2).length+q.length<=10000000:=by rw[Ϗ,Ϗ,Ϗ,qK _ _ ζ,qK _ _ ζ,qK _ _ ζ];omega
      have bl:((q.length:Int)).tdiv 4=(q.length:Int)/4:=P5 τ;have ag:=κ (P4 aL (P4 aM aN));have af:=κ (P4 az (P4 aA aB));clear aL aM aN az aA aB;have ap:=κ (WrK.new (.cells #[υ k,υ n,δ aO q.length au] 291) J d aV);have aw:acc++qy (128+k) 1++qy n 1++qy ((q.length:Int)/4) 2++q=acc++chB (k,n,q,()):=by unfold chB;simp only[ϭ]
      have aP:=κ aw;clear aw
      go_wp2_with first | (go_at_call 93;((with_reducible refine(wk ap.o.wr (128+k) af.o.1 τ).mono ?_);rintro e w6 ⟨rfl,aG⟩;obtain⟨am,ai⟩:=ap.o.wrote aG;have bg:=β1 ai.keep;clear aG)) | (go_at_call 93;((with_reducible refine(wk ai.wr n af.o.2.1 ag.o.1).mono ?_);rintro e bz ⟨rfl,aH⟩;obtain⟨bw,aj⟩:=ai.wrote aH;have bh:=β2 aj.keep;clear aH)) | (go_at_call 94;(go_call kU aj.wr ((q.length:Int)/4) af.o.2.2 ag.o.2.1 as e w8 ⟨rfl,aI⟩;obtain⟨bx,ab⟩:=aj.wrote aI;have bi:=β2 ab.keep;have bf:=ao.o.keep ab.more;clear aI)) | (go_at_call 96;(go_call uU ab.wr _ _ bf ag.o.2.2 as e w9 ⟨rfl,aJ⟩;obtain⟨v9,aq⟩:=ab.wrote aJ;clear aJ))
      go_roundw
      case rel=>exact⟨j+1,τ,by go_num,⟨v9,by rw[an.o,<-aP.o];exact aq.wr⟩,aq.more⟩
      case measure=>simp[intOf];omega
     ·obtain rfl:j=l.length:=by omega
      rw[ϱ] at J;have aK:(flC l).length<=200:=by rw[YH];omega
      clear U
      go_wp2_with (go_at_call 97;refine(wZ J τ).mono ?_;rintro e w6 ⟨am,rfl,ak,bb⟩;have be:=κ (SlI.of_owns ak τ);have bc:=κ (λ(b:Nat) (I:am.ownBlock=ϊ b)=>Ϙ d.size (jG ak I));clear ak)
      refine bodyPost_ret (v:= .tuple #[am,ι 0]) (by simp[results,results206,go_sem]) rfl ?_;exact⟨_,by rw[M.o],by rw[M.o];exact be.o,d.trans bb,bc.o⟩
def xg (b:List Int):List Int×Bool:=
 if b=[] then ([],ύ) else
  let n:=b.getD (b.length-1) 0
  if n=0∨ ¬n%4=0∨(b.length:Int)<n then ([],ύ) else (b.take (b.length-n.toNat),ό)
def Dn (Y:SlI .u8 w v b) (U:Byt b):
  Calls prog 303 #[v] w λe w'=>(∃v',e= .returned (.tuple #[v',μ (xg b).2])/\SlI .u8 w v' (xg b).1/\ ∀g,v'.ownBlock=ϊ g->v.ownBlock=ϊ g)/\w'=w:=by
 have I:=κ Y;obtain⟨ar,cap,rfl,ae,M,af,ag,N⟩:=Y;by_cases hn:b=[]
 ·subst hn;have H:xg []=([],ύ):=rfl;have d:=κ H;clear H I N
  go_enter func303,ntmps303
  go_wp2;refine bodyPost_ret (v:= .tuple #[δ ϋ 0 0,ύ]) (by simp[results,results303,go_sem]) rfl ?_;exact⟨⟨_,rfl,SlI.nil _ _,λg h=>by cases h⟩,rfl⟩
 ·have aj:0<b.length:=C1.2 hn;obtain⟨J,aa,rfl,ak,ah⟩:=M (b.length-1) τ;have ab:=U (b.length-1);have ai:((b.length:Int)-1)=((b.length-1:Nat):Int):=by omega
  have aq:((b.length:Int)-1).toNat=b.length-1:=by omega
  have O: ∀n,b.getD (b.length-1) 0=n->xg b=if n=0∨ ¬n%4=0∨(b.length:Int)<n then ([],ύ) else (b.take (b.length-n.toNat),ό):=λn e=>by
   unfold xg;rw[ώ hn];simp only[e]
  have d:=κ (O _ rfl);clear O M U N hn;generalize b.getD (b.length-1) 0=n at *;obtain⟨ac,al⟩:=ab;have ap:n.tmod 4=n%4:=D8 ac;have ad:n=0∨(¬n=0/\ ¬n%4=0)∨(¬n=0/\n%4=0/\(b.length:Int)<n)∨(¬n=0/\n%4=0/\ ¬(b.length:Int)<n):=by omega
  rcases ad with h | ⟨h,h'⟩ | ⟨h,h',h''⟩ | ⟨h,h',h''⟩
  ·have H:xg b=([],ύ):=by rw[d.o,ϐ (ϑ h)]
   clear d;have d:=κ H;clear H;subst h
   go_enter func303,ntmps303
   go_wp2;refine bodyPost_ret (v:= .tuple #[δ ϋ 0 0,ύ]) (by simp[results,results303,go_sem]) rfl ?_;exact⟨⟨δ ϋ 0 0,by rw[d.o],by rw[d.o];exact SlI.nil _ _,λg h=>by cases h⟩,rfl⟩
  ·have H:xg b=([],ύ):=by rw[d.o,ϐ (ϕ (ϑ h'))]
   clear d;have d:=κ H;clear H
   go_enter func303,ntmps303
   go_wp2;refine bodyPost_ret (v:= .tuple #[δ ϋ 0 0,ύ]) (by simp[results,results303,go_sem]) rfl ?_;exact⟨⟨δ ϋ 0 0,by rw[d.o],by rw[d.o];exact SlI.nil _ _,λg h=>by cases h⟩,rfl⟩
  ·have H:xg b=([],ύ):=by rw[d.o,ϐ (ϕ (ϕ h''))]
   clear d;have d:=κ H;clear H
   go_enter func303,ntmps303
   go_wp2;refine bodyPost_ret (v:= .tuple #[δ ϋ 0 0,ύ]) (by simp[results,results303,go_sem]) rfl ?_;exact⟨⟨δ ϋ 0 0,by rw[d.o],by rw[d.o];exact SlI.nil _ _,λg h=>by cases h⟩,rfl⟩
  ·have H:xg b=(b.take (b.length-n.toNat),ό):=by rw[d.o,ώ τ]
   clear d;have d:=κ H;clear H;obtain⟨m,rfl⟩: ∃m:Nat,n=m:=⟨n.toNat,τ⟩;have am:(0:Int)<=(b.length:Int)-(m:Int):=by omega
   have an:(b.length:Int)-(m:Int)<=(cap:Int):=by omega
   have ao:((b.length:Int)-(m:Int)).toNat=b.length-m:=by omega
   go_enter func303,ntmps303
   go_wp2;refine bodyPost_ret (v:= .tuple #[δ (ϊ ⟨J,aa,ϋ⟩) (b.length-m) cap,ό]) (by simp[results,results303,go_sem]) rfl ?_;exact⟨⟨δ (ϊ ⟨J,aa,ϋ⟩) (b.length-m) cap,by rw[d.o],by rw[d.o];exact I.o.take _ τ,λg h=>h⟩,rfl⟩
def Aj: ∀m:Fin 256,bits .and .u8 (m.val:Int) 31=(m.val:Int)%32/\bits .and .u8 (m.val:Int) 32=if (m.val:Int)%64<32 then 0 else 32:=Ϛ ξ
def Mr (h:0<=n/\n<=255):bits .and .u8 n 31=n%32:=by
 obtain⟨m,rfl⟩:=Ϻ h.1;exact(Aj ⟨m,τ⟩).1
def Mq (h:0<=n/\n<=255):(bits .and .u8 n 32 != 0)= !decide (n%64<32):=by
 obtain⟨m,rfl⟩:=Ϻ h.1;rw[(Aj ⟨m,τ⟩).2];simp only;by_cases e:(m:Int)%64<32
 ·rw[ϐ e];simp[e]
 ·rw[ώ e];simp;omega
def ze (s:RdS):(Int×Int×Int)×RdS:=((num (tkB s.1 1),num (tkB (tkS s 1).1 1),num (tkB (tkS (tkS s 1) 1).1 2)),tkS (tkS (tkS s 1) 1) 2)
def ua (f:Int) (s:RdS):RdS:=if f<128∨191<f then wrS s 2 else s
def vG (f t n:Int) (s:RdS):qQ×RdS:=
 if f%64<32 then ((f%32,t,tkB s.1 (4* n),()),tkS s (4* n))
 else ((f%32,t,(xg (tkB s.1 (4* n))).1,()),if (xg (tkB s.1 (4* n))).2=ύ∨ ¬(tkS s (4* n)).1=[] then wrS (tkS s (4* n)) 2 else tkS s (4* n))
def qP (s:RdS):qQ×RdS:=
 vG (ze s).1.1 (ze s).1.2.1 (ze s).1.2.2 (ua (ze s).1.1 (ze s).2)
structure RdK (w0 w:World) (R:Nat) (l:List Int) (e:Int) (B:Nat) (o:Obj) (C:Nat->Prop):Prop where
 rd:qu w R l e C
 away:jt (λb=>b=R) w0 w
 keep:w.heap[B]? =ϊ o
 ne: ¬B=R
def RdK.new (o:Obj) (h:qu w R l e C):RdK w (w.alloc o) R l e w.heap.size o C:=
 ⟨h.more (ql.alloc w o),jt.of_more (ql.alloc w o),qj w o,λe=>by obtain⟨v,d,_⟩:=h.blk;have:=qn d;omega⟩
def RdK.step {H:World} {l':List Int} {d:Int} (h:RdK H w R l e B o C) (r:qu w' R l' d C) (a:jt (λb=>b=R) w w'):RdK H w' R l' d B o C:=
 ⟨r,h.away.trans a,a.blk h.keep h.ne,h.ne⟩
def Uj (h:Byt b):Byt (xg b).1:=by
 unfold xg;split
 ·exact xh
 ·simp only;split
  ·exact xh
  ·exact h.take _
def Wf (h:qu w R s.1 s.2 C):
  Calls prog 279 #[γ R] w λe w'=>(∃vb,e= .returned (θ #[υ (qP s).1.1,υ (qP s).1.2.1,vb])/\SlI .u8 w' vb (qP s).1.2.2.1/\xk (qP s).1/\ ∀g,vb.ownBlock=ϊ g->w.heap.size<=g)/\qu w' R (qP s).2.1 (qP s).2.2 C/\jt (λb=>b=R) w w':=by
 have bS:R<w.heap.size:=by obtain⟨v,ai,_⟩:=h.blk;exact qn ai
 have ag:=RdK.new (.cells #[υ 0,υ 0,()] 291) h.old;have aS:=jL h.byt 1;have aY:=zh s.1 1 ζ;have ax:=zv _ 1 aS aY ζ;have aT:qP s=vG (ze s).1.1 (ze s).1.2.1 (ze s).1.2.2 (ua (ze s).1.1 (ze s).2):=rfl;have ae:=κ aT;clear aT;obtain⟨L,E⟩:=s;simp only at h ag;have aP:Byt (tkL L 1):=h.byt.drop _;have bC:Byt (tkL (tkL L 1) 1):=aP.drop _;have bc:=zv _ 1 (jL aP 1) (zh (tkL L 1) 1 ζ) ζ;have bd:=zv _ 2 (jL bC 2) (zh (tkL (tkL L 1) 1) 2 ζ) ζ;have aU:ze (L,E)=((num (tkB L 1),num (tkB (tkL L 1) 1),num (tkB (tkL (tkL L 1) 1) 2)),(tkL (tkL (tkL L 1) 1) 2,tkE (tkL (tkL L 1) 1) 2 (tkE (tkL L 1) 1 (tkE L 1 E)))):=rfl;rw[aU] at ae;simp only at ae ax;clear aU aS aY;generalize aZ:num (tkB L 1)=f at *;generalize ba:num (tkB (tkL L 1) 1)=t at *;generalize bb:num (tkB (tkL (tkL L 1) 1) 2)=n at *;generalize aR:tkL (tkL (tkL L 1) 1) 2=L3 at *;generalize aQ:tkE (tkL (tkL L 1) 1) 2 (tkE (tkL L 1) 1 (tkE L 1 E))=E3 at *;have aV:0<=f/\f<=255:=by have:=ax;simp at this;omega
 have bF:0<=t/\t<=255:=by have:=bc;simp at this;omega
 have bT:0<=n/\n<=65535:=by have:=bd;simp at this;omega
 have bR:=Mr aV;have bB:=Mq aV;clear ax bc bd
 have bG:Hid (∀O vb q (H:RdS),RdK w O R H.1 H.2 w.heap.size (.cells #[υ 0,υ 0,()] 291) (λg=>C g/\g<w.heap.size)->qP (L,E)=((f%32,t,q,()),H)->SlI .u8 O vb q->Byt q->(∀g,vb.ownBlock=ϊ g->w.heap.size+1<=g)->(∃vb',Ending.returned (θ #[υ (f%32),υ t,vb])= .returned (θ #[υ (qP (L,E)).1.1,υ (qP (L,E)).1.2.1,vb'])/\SlI .u8 (((O.setCell ⟨w.heap.size,0,ϋ⟩ (υ (f%32))).setCell ⟨w.heap.size,1,ϋ⟩ (υ t)).setCell ⟨w.heap.size,2,ϋ⟩ vb) vb' (qP (L,E)).1.2.2.1/\xk (qP (L,E)).1/\ ∀g,vb'.ownBlock=ϊ g->w.heap.size<=g)/\qu (((O.setCell ⟨w.heap.size,0,ϋ⟩ (υ (f%32))).setCell ⟨w.heap.size,1,ϋ⟩ (υ t)).setCell ⟨w.heap.size,2,ϋ⟩ vb) R (qP (L,E)).2.1 (qP (L,E)).2.2 C/\jt (λb=>b=R) w (((O.setCell ⟨w.heap.size,0,ϋ⟩ (υ (f%32))).setCell ⟨w.heap.size,1,ϋ⟩ (υ t)).setCell ⟨w.heap.size,2,ϋ⟩ vb)):=κ (by
  intro O vb q H X bA bJ ah aW;have U:jt (λb=>b=w.heap.size) O (((O.setCell ⟨w.heap.size,0,ϋ⟩ (υ (f%32))).setCell ⟨w.heap.size,1,ϋ⟩ (υ t)).setCell ⟨w.heap.size,2,ϋ⟩ vb):=(((jt.refl (λb=>b=w.heap.size) O).set (p:=⟨w.heap.size,0,ϋ⟩) rfl _).set (p:=⟨w.heap.size,1,ϋ⟩) rfl _).set (p:=⟨w.heap.size,2,ϋ⟩) rfl _;rw[bA];refine⟨⟨vb,rfl,bJ.off (λb aw e=>by have:=aW b aw;omega) U,⟨by simp only;omega,bF,ah⟩,λg h=>by have:=aW g h;omega⟩, ?_, ?_⟩
  ·exact(X.rd.off U (λe=>X.ne e.symm) (λg bD e=>by have:=bD.2;omega)).mono λg h=>h.1
  ·exact⟨U.os.trans X.away.os,U.tape.trans X.away.tape,U.output.trans X.away.output,Ϙ X.away.size U.size,λk aX bE=>by rw[U.block k (ϗ aX X.away.size) τ];exact X.away.block k aX bE⟩)
 obtain⟨⟨d,M⟩,av⟩: ∃S4,ua f (L3,E3)=S4:=⟨_,rfl⟩;rw[av] at ae;have ak:=κ av;clear av
 go_enter func279,ntmps279
 go_upto_region 2 with (first | (go_at_call 52;((with_reducible refine(jT ag.rd).mono ?_);rintro e w6 ⟨rfl,bj,aI⟩;have am:=ag.step bj aI;rw[aZ])) | (go_at_call 52;((with_reducible refine(jT am.rd).mono ?_);rintro e bX ⟨rfl,bk,aJ⟩;have an:=am.step bk aJ;rw[ba])) | (go_at_call 53;(go_call xn an.rd as e w8 ⟨rfl,bl,aK⟩;have ao:=an.step bl aK;rw[bb];rw[aR,aQ] at ao)))
 have af:=κ ao;clear ag am an ao bj bk bl aI aJ aK aZ ba bb aR aQ h;obtain⟨q,be⟩:=ν (decide (f<128∨191<f));have Y:=κ be;clear be
 go_cut [20] from 15 to 51 (λv I=>v= μ q/\w8=I)
 case first=>
  by_cases ai:f<128
  ·go_wp2;go_meet;exact⟨by rw[<-Y.o];simp[ai],rfl⟩
  ·by_cases h2:191<f
   ·go_wp2;go_meet;exact⟨by rw[<-Y.o];simp[h2],rfl⟩
   ·go_wp2;go_meet;exact⟨by rw[<-Y.o];simp[ai,h2],rfl⟩
 case rest=>
 obtain⟨rfl,rfl⟩:=hcut
 go_upto_if 20 with fail
 go_cut [] from 21 to 51 (λI=>RdK w I R d M w.heap.size (.cells #[υ 0,υ 0,()] 291) (λg=>C g/\g<w.heap.size))
 case first=>
  cases q
  ·have ad:Hid ((L3,E3)=(d,M)):=κ (by rw[<-ak.o];exact(ώ (A5 Y.o)).symm);go_wp2;go_meet;have x:=af.o;rw[show L3=d from ϵ Prod.fst ad.o,show E3=M from ϵ Prod.snd ad.o] at x;exact x
  ·have ad:Hid (wrS (L3,E3) 2=(d,M)):=κ (by rw[<-ak.o];exact(ϐ (Ϛ Y.o)).symm)
   go_wp2_with ((go_at_call 55;(go_call zo (s:=(L3,E3)) af.o.rd 2 as e w9 ⟨rfl,bm,a9⟩;have N:=κ (af.o.step bm a9);clear bm a9)))
   go_meet;have x:=N.o;rw[ad.o] at x;exact x
 case rest=>
 have N:=κ hcut;clear hcut af ak Y
 go_upto_region 5 with ((go_at_call 56;(go_call QI (4* n) N.o.rd as e w10 ⟨bK,rfl,ay,bh,aH⟩;have aa:=κ (N.o.step bh aH);have aB:=κ (SlI.of_owns ay (by have:=Vm d (4* n);have:=N.o.rd.small;omega));have aL:Hid (∀g,bK.ownBlock=ϊ g->w.heap.size+1<=g):=κ (λg h=>Ϙ (ϗ (qn N.o.keep) (ϔ _)) (jG ay h));have aq:=κ (jL N.o.rd.byt (4* n));obtain⟨bU,bM,rfl,_⟩:=id aB.o;clear ay bh aH)))
 obtain⟨p,aA⟩:=ν ((!decide (f%64<32)));rw[aA] at bB;have aF:=κ aA;clear aA N;generalize aO:tkB d (4* n)=B at *;have aD:=κ aO;clear aO
 go_upto_if 30 with fail
 go_cut [6] from 31 to 51 (λv I=> ∃(o:Option Addr) (c:Nat) (q:List Int) (H:RdS),v= δ o q.length c/\SlI .u8 I (δ o q.length c) q/\Byt q/\(∀g,(δ o q.length c).ownBlock=ϊ g->w.heap.size+1<=g)/\RdK w I R H.1 H.2 w.heap.size (.cells #[υ 0,υ 0,()] 291) (λg=>C g/\g<w.heap.size)/\vG f t n (d,M)=((f%32,t,q,()),H))
 case first=>
  cases p
  ·go_wp2;go_meet;exact⟨_,_,_,(tkL d (4* n),tkE d (4* n) M),rfl,aB.o,aq.o,aL.o,aa.o,by unfold vG;rw[ϐ (by have:=aF.o;simpa using this),aD.o];rfl⟩
  ·have aE:Hid (vG f t n (d,M)=((f%32,t,(xg B).1,()),if (xg B).2=ύ∨ ¬tkL d (4* n)=[] then wrS (tkL d (4* n),tkE d (4* n) M) 2 else (tkL d (4* n),tkE d (4* n) M))):=κ (by unfold vG;rw[ώ (by have:=aF.o;simpa using this),aD.o];rfl);have bu:=κ (Uj (b:=B) aq.o);obtain⟨bg,az⟩:=ν ((xg B).2);obtain⟨ab,au⟩:=ν (tkL d (4* n));obtain⟨aj,ar⟩:=ν (tkE d (4* n) M);obtain⟨z,bf⟩:=ν (decide (bg=ύ∨ ¬ab=[]));have al:=κ bf;have aG:=κ (Dn aB.o aq.o);rw[az] at aG;rw[au,ar] at aa;rw[az,au,ar] at aE;clear az au ar bf
   go_upto_region 7 with (go_at_call 303;(go_call aG.o as e bp ⟨⟨bW,rfl,bn,aM⟩,rfl⟩;have bv:=κ bn;have aC:=κ (λg h=>aL.o g (aM g h));obtain⟨bV,bN,rfl,_⟩:=bn;clear aM))
   go_cut [42] from 36 to 51 (λv I=>v= μ z/\bp=I)
   case first=>
    cases bg
    ·go_wp2;go_meet;exact⟨by rw[<-al.o];rfl,rfl⟩
    ·go_wp2_with (go_at_call 57;(go_call zn aa.o.rd as e bL ⟨rfl,rfl⟩))
     go_meet;exact⟨by rw[<-al.o];cases ab<;>simp,rfl⟩
   case rest=>
   obtain⟨rfl,rfl⟩:=hcut
   go_upto_if 42 with fail
   go_cut [] from 43 to 51 (λI=> ∃H:RdS,RdK w I R H.1 H.2 w.heap.size (.cells #[υ 0,υ 0,()] 291) (λg=>C g/\g<w.heap.size)/\(if z then wrS (ab,aj) 2 else (ab,aj))=H/\jt (λb=>b=R) bp I)
   case first=>
    cases z
    ·go_wp2;go_meet;exact⟨_,aa.o,rfl,jt.refl _ _⟩
    ·go_wp2_with ((go_at_call 55;(go_call zo (s:=(ab,aj)) aa.o.rd 2 as e bL ⟨rfl,bi,ap⟩;have bw:=κ (aa.o.step bi ap);have bq:=κ ap;clear bi ap)))
     go_meet;exact⟨_,bw.o,rfl,bq.o⟩
   case rest=>
   obtain⟨H,J,ac,a9⟩:=hcut;have N:=κ J;have bs:=κ ac;have br:=κ a9;clear J ac a9;go_wp2;go_meet;exact⟨_,_,_,H,rfl,bv.o.off (λb aw e=>by have:=aC.o b aw;omega) br.o,bu.o,aC.o,N.o,by rw[aE.o,<-bs.o,<-al.o];simp⟩
 case rest=>
 obtain⟨bH,bz,bI,H,rfl,bo,ah,aN,J,ac⟩:=hcut;have bx:=β0 J.keep;have c1:=β1 J.keep;have c2:=β2 J.keep;have bO:=yw J.keep 0;have bP:=yw J.keep 1;have bQ:=yw J.keep 2;have bt:=κ (bG.o _ _ _ _ J (ae.o.trans ac) bo ah aN);clear J ac bo ah aN;go_wp2
 (refine bodyPost_ret (v:= θ #[υ (f%32),υ t,δ bH bI.length bz]) ?rr1 rfl ?_;(case rr1=>(simp[results,results279,go_sem,bx,c1,c2])))
 exact bt.o
def vd:Nat->List qQ->RdS->List qQ×RdS
 | 0,acc,s=>(acc,s)
 | n+1,acc,s=>if (qP s).2.1=[] then (acc++[(qP s).1],(qP s).2) else vd n (acc++[(qP s).1]) (qP s).2
def jI (b:List Int):List qQ×Int:=
 if 200<b.length then ([],4) else if (vd (b.length+1) [] (b,0)).2.2=0 then ((vd (b.length+1) [] (b,0)).1,0) else ([],(vd (b.length+1) [] (b,0)).2.2)
def vH (s:RdS) (x:Int):(wrS s x).1.length<=s.1.length:=by unfold wrS;split<;>simp
def uN (s:RdS) (n:Int):(tkS s n).1.length<=s.1.length:=by
 show (tkL s.1 n).length<=_;unfold tkL;simp
def ZC (s:RdS):(qP s).2.1.length<=s.1.length-1:=by
 have d:(ze s).2.1.length<=s.1.length-1:=by
  show (tkS (tkS (tkS s 1) 1) 2).1.length<=_;have d:=uN (tkS (tkS s 1) 1) 2;have H:=uN (tkS s 1) 1;have I:(tkS s 1).1.length=s.1.length-1:=by
   show (tkL s.1 1).length=_;unfold tkL;simp
  omega
 have H:(ua (ze s).1.1 (ze s).2).1.length<=(ze s).2.1.length:=by
  unfold ua;split
  ·exact vH _ _
  ·exact ϔ _
 have I: ∀f t n s,(vG f t n s).2.1.length<=s.1.length:=by
  intro f t n s;have:=uN s (4* n);unfold vG;split
  ·exact this
  ·simp only;split
   ·exact Ϙ (vH _ _) this
   ·exact this
 exact Ϙ (I _ _ _ _) (Ϙ H d)
structure yG (w0 w:World) (R B0:Nat) (C:Nat->Prop) (b:List Int) (v:Value) (acc:List qQ) (s:RdS):Prop where
 rd:qu w R s.1 s.2 C
 row:je 3 yH (λk=>k=R) w B0 291 v acc
 more:ql w0 w
 len:acc.length+s.1.length<=b.length
 ans: ∃n,s.1.length<n/\vd n acc s=vd (b.length+1) [] (b,0)
 hR:w0.heap.size<=R
 RB:R<B0
 BW:B0<=w.heap.size
 CB: ∀g,C g->g<B0
def yG.body {J w6 w8:World} {H:Nat} (h:yG J w R H C b v acc s)
  (ab:qu w6 R (qP s).2.1 (qP s).2.2 C) (M:jt (λb=>b=R) w w6) (ac:je 3 yH (λk=>k=R) w8 H 291 v' (acc++[(qP s).1])) (d:(w6.alloc o).grownBy w8 v.ownBlock):
  qu w8 R (qP s).2.1 (qP s).2.2 C/\ql J w8/\H<=w8.heap.size:=by
 have I: ∀g,v.ownBlock=ϊ g->H<=g:=λg e=>h.row.ge e
 have aa:ql J (w6.alloc o):=(Jv M h.more h.hR).al o;have N:jt (λk=>v.ownBlock=ϊ k) (w6.alloc o) w8:=⟨d.os,d.tape,d.output,d.size,λk U Y=>d.block k U (λe=>Y e.symm)⟩;refine⟨(ab.more (ql.alloc w6 o)).off N (λe=> ?_) (λg O e=> ?_),jt.to_more aa N (λk e=> ?_),Ϙ h.BW (Ϙ M.size (Ϙ (ql.alloc w6 o).size d.size))⟩
 ·have:=I R e;have:=h.RB;omega
 ·have:=I g e;have:=h.CB g O;omega
 ·have:=I k e;have:=h.RB;have:=h.hR;omega
def yG.next {I w8:World} {d:Nat} (h:yG I w R d C b v acc s)
  (M:je 3 yH (λk=>k=R) w8 d 291 v' (acc++[(qP s).1])) (H:qu w8 R (qP s).2.1 (qP s).2.2 C/\ql I w8/\d<=w8.heap.size) (J: ¬(qP s).2.1=[]):
  yG I w8 R d C b v' (acc++[(qP s).1]) (qP s).2:=by
 have N:=ZC s;have O:=C1.2 J;refine⟨H.1,M,H.2.1, ?_, ?_,h.hR,h.RB,H.2.2,h.CB⟩
 ·have:=h.len;simp;omega
 ·obtain⟨n,U,e⟩:=h.ans;cases n with
  | zero=>omega
  | succ n=>
   refine⟨n,τ, ?_⟩;rw[<-e,vd,ώ J]
def yG.stop {J:World} {d:Nat} (h:yG J w R d C b v acc s) (H: ¬200<b.length) (I:(qP s).2.1=[]):
  jI b=if (qP s).2.2=0 then (acc++[(qP s).1],0) else ([],(qP s).2.2):=by
 obtain⟨n,M,e⟩:=h.ans;cases n with
 | zero=>omega
 | succ n=>
  rw[vd,ϐ I] at e;unfold jI;rw[ώ H,<-e]
def Dv (h:qu w R [] e C):
  Calls prog 59 #[γ R] w λd w'=>d= .returned (ι e)/\w'=w:=by
 refine(yT h).mono ?_;rintro d w' ⟨rfl,rfl⟩;refine⟨?_,rfl⟩;by_cases x:e=0
 ·rw[ώ (by simp[x]),ώ η,x]
 ·rw[ϐ x]
def QO:Value->Nat
 | .slice _ n _=>n
 | _=>0
def Kc {M:World} {H:Nat} (h:yG M w R H C b v acc s) (I: ∀g,vb.ownBlock=ϊ g->w.heap.size<=g) (k:Nat) (J:vb.ownBlock=ϊ k) (d:k=R∨v.ownBlock=ϊ k):False:=by
 have N:=I k J;rcases d with rfl | d
 ·have:=h.RB;have:=h.BW;omega
 ·have:=h.row.lt d;omega
def AT {H w6:World} {d:Nat} (h:yG H w R d C b v acc s) (a:jt (λb=>b=R) w w6) {k:Nat} (I:k=R):k<(w6.alloc o).heap.size:=by
 have:=h.RB;have:=h.BW;have:=a.size;have:=(ql.alloc w6 o).size;omega
def Ut {H w6:World} {d:Nat} (h:yG H w R d C b v acc s) (a:jt (λb=>b=R) w w6):d<=(w6.alloc o).heap.size:=by
 have:=h.BW;have:=a.size;have:=(ql.alloc w6 o).size;omega
def Z6 (v:Value) (b:List Int) (w:World) (sl:SlI .u8 w v b) (M:Byt b) (bl:b.length<=1000000):
  Calls prog 240 #[v] w λe w'=> ∃vl,e= .returned (.tuple #[vl,ι (jI b).2])/\SlP 3 yH w' vl (jI b).1/\ql w w':=by
 obtain⟨bs,hi,bo,bp,bq⟩:=info_parts (P:=prog) (e:=291) (z:= θ #[υ 0,υ 0,()]) (size:=3) (bytes:=32) ξ;have bg:=κ sl;obtain⟨bt,bh,rfl,_⟩:=sl;by_cases h200:200<b.length
 ·have N:jI b=([],4):=by unfold jI;rw[ϐ h200]
  have aa:=κ N;have bk:(200:Int)<(b.length:Int):=by omega
  clear N
  go_enter func240,ntmps240
  go_wp2
  go_step3
  go_wp2;simp only[Exit.noGoto]
  (refine bodyPost_ret (v:= .tuple #[δ ϋ 0 0,ι 4]) ?rr1 rfl ?_;(case rr1=>(simp[results,results240,go_sem])))
  exact⟨_,by rw[aa.o],by rw[aa.o];exact SlP.nil _ _ _,ql.refl _⟩
 ·have bk: ¬(200:Int)<(b.length:Int):=by omega
  have bu:b.length<=200:=by omega
  go_enter func240,ntmps240
  go_wp2;refine wp_scope_jumps 0 (λa' w'=> ∃R H C am ad ag acc s aI aZ ba u8 bb aJ aK aL aM aN aO aP aQ aR aS aT aU aV aW aX aY,a'={tmps:= #[δ bt b.length bh,aI,(),ι 0,γ R,δ am ad ag,aZ,ba,u8,bb,aJ,aK,aL,aM,aN,aO,aP,aQ,aR,aS,aT,aU,aV,aW,aX,aY],defers:=[]}/\yG w w' R H C b (δ am ad ag) acc s/\ad=acc.length) (λa' _=>300-QO (a'.tmps.getD 5 undef)) rfl ?ja ?jb
  case' jb=>
   rintro a' w' ⟨R,H,C,am,ad,ag,acc,s,aI,aZ,ba,u8,bb,aJ,aK,aL,aM,aN,aO,aP,aQ,aR,aS,aT,aU,aV,aW,aX,aY,rfl,aA,aC⟩;have d:=κ aA;have bf:=κ aC;clear aA aC
  case' ja=>
   go_wp2_with (go_at_call 51;(go_call NV _ b w bg.o M bl as e w1 ⟨R,rfl,aw,ak,bn⟩))
   go_step3
   have d:Hid (yG w w1 R w1.heap.size (λg=>w.heap.size<=g/\g<w1.heap.size) b (δ ϋ 0 0) [] (b,0)):=κ ⟨ak,je.nil _ _ _ _ _ _,bn,η,⟨b.length+1,η,rfl⟩,aw,by obtain⟨v,bi,_⟩:=ak.blk;exact qn bi,ϔ _,λg h=>h.2⟩;obtain⟨s,N⟩: ∃s:RdS,s=(b,0):=⟨_,rfl⟩;rw[<-N] at d;obtain⟨acc,ax⟩: ∃acc:List qQ,acc=[]:=⟨_,rfl⟩;rw[<-ax] at d;obtain⟨H,au⟩: ∃H,H=w1.heap.size:=⟨_,rfl⟩;obtain⟨C,av⟩: ∃C:Nat->Prop,C=λg=>w.heap.size<=g/\g<w1.heap.size:=⟨_,rfl⟩
   rw[<-av,<-au] at d;clear N ax au av ak aw
  all_goals
   obtain⟨m,aB⟩: ∃m:Bool,decide ((0:Int)<((qP s).2.1.length:Int))=m:=⟨_,rfl⟩;have U:=κ aB
   go_upto_if 19 with (first | (go_at_call 279;(go_call Wf d.o.rd as e w6 ⟨⟨vb,rfl,aH,aF,ar⟩,aG,ap⟩;have aa:=κ aH;have be:=κ aF;have bd:=κ ar;have bc:=κ aG;have O:=κ ap;obtain⟨aE,aq,rfl,_⟩:=aH;clear ar aG aF ap)) | (at_builtin;refine jN _ rfl (.tmp 12) (.tmp 15) 385 rfl H 291 bs (θ #[υ 0,υ 0,()]) 3 32 underlying385 hi bo bp bq rfl ζ _ acc rfl ((d.o.row.step O.o).on (ql.alloc w6 (.cells #[υ (qP s).1.1,υ (qP s).1.2.1,δ aE (qP s).1.2.2.1.length aq] 291))) w6.heap.size [υ (qP s).1.1,υ (qP s).1.2.1,δ aE (qP s).1.2.2.1.length aq] (qP s).1 rfl rfl (zS rfl) X9 (λw' a'=>VU ((aa.o.keep X8).off (λb M bj=>Kc d.o bd.o b M bj) a') be.o) (λb h=>AT d.o O.o h) ζ (by have:=d.o.len;omega) (Ut d.o O.o) ?_;intro v' w8 ac az M;have af:=κ ac;have I:=κ (d.o.body bc.o O.o ac az);obtain⟨an,al,ah,rfl,aD,br⟩:=ac.shape;have ae:=κ aD;clear ac az M aD br) | (go_at_call 57;(go_call zn I.o.1 as e w9 ⟨rfl,rfl⟩)))
   clear aB;cases m with
   | false=>
    have bm:((qP s).2.1.length:Int)=0:=by have:=A5 U.o;omega
    have aj:(qP s).2.1=[]:=Ϥ (by have:=A5 U.o;omega);have ab:=κ (d.o.stop h200 aj);have Y:=κ aj;clear aj;obtain⟨ai,ay⟩: ∃ai:Bool,((qP s).2.2 != 0)=ai:=⟨_,rfl⟩;have ao:=κ ay
    go_upto_if 23 with (go_at_call 59;(go_call Dv (R:=R) (e:=(qP s).2.2) (C:=C) (by (have:=I.o.1;rw[Y.o] at this;exact this)) as e w10 ⟨rfl,rfl⟩))
    clear ay;cases ai with
    | false=>
     have J:Hid ((qP s).2.2=0):=κ (by simpa using ao.o);go_wp2;simp only[Exit.jump]
     (refine bodyPost_ret (v:= .tuple #[δ an al ah,ι 0]) ?rr2 rfl ?_;(case rr2=>(simp[results,results240,go_sem])))
     exact⟨_,by rw[ab.o,ϐ J.o],by rw[ab.o,ϐ J.o];exact af.o.sl ζ,I.o.2.1⟩
    | true=>
     have J:Hid (¬(qP s).2.2=0):=κ (by simpa using ao.o);go_wp2;simp only[Exit.jump]
     (refine bodyPost_ret (v:= .tuple #[δ ϋ 0 0,ι (qP s).2.2]) ?rr3 rfl ?_;(case rr3=>(simp[results,results240,go_sem])))
     exact⟨_,by rw[ab.o,ώ J.o],by rw[ab.o,ώ J.o];exact SlP.nil _ _ _,I.o.2.1⟩
   | true=>
    have bm:(0:Int)<((qP s).2.1.length:Int):=Ϛ U.o;have Y:Hid (¬(qP s).2.1=[]):=κ (λe=>by have:=Ϛ U.o;rw[e] at this;simp at this);go_wp2
    go_step3
    first
     | exact⟨rfl,R,H,C,an,al,ah,_,_,_,_,_,_,_,_,_,_,_,_,_,_,_,_,_,_,_,_,_,_,_,rfl,d.o.next af.o I.o Y.o,ae.o⟩
     | exact⟨rfl,⟨R,H,C,an,al,ah,_,_,_,_,_,_,_,_,_,_,_,_,_,_,_,_,_,_,_,_,_,_,_,rfl,d.o.next af.o I.o Y.o,ae.o⟩,by have:=ae.o;have:=d.o.len;have:=bf.o;simp[QO] at *;omega⟩
def NT (h:tkE l n e=0):e=0/\n<=l.length:=by
 unfold tkE at h;split at h
 ·cases h
 ·rename_i x;refine⟨h, ?_⟩;rcases Int.lt_or_le (l.length:Int) n with y | y
  ·exact ϩ ⟨y,h⟩ x
  ·exact y
def Ym (s:RdS): ¬(wrS s 2).2=0:=by
 unfold wrS;split
 ·rename_i h;rcases h with h | h
  ·cases h
  ·exact h
 ·decide
def Gy (H:Byt b) (h:(xg b).2=ό):(xg b).1.length<b.length/\(b.length%4=0->(xg b).1.length%4=0):=by
 unfold xg at h ⊢;split at h
 ·cases h
 ·rename_i d;rw[ώ d];simp only at h ⊢;have I:=H (b.length-1);generalize b.getD (b.length-1) 0=n at *;split at h
  ·cases h
  ·rename_i x;rw[ώ x];have J:=C1.2 d;simp only[Ϡ];omega
def Xy (L:List Int) (E:Int) (O:Byt L) (h:(qP (L,E)).2.2=0):
  E=0/\(qP (L,E)).1.1<=31/\(qP (L,E)).1.2.2.1.length%4=0/\(chB (qP (L,E)).1).length+(qP (L,E)).2.1.length<=L.length/\((chB (qP (L,E)).1).length+(qP (L,E)).2.1.length=L.length->chB (qP (L,E)).1++(qP (L,E)).2.1=L):=by
 have M:Byt (tkL L 1):=O.drop _;have I:Byt (tkL (tkL L 1) 1):=M.drop _;have af:Byt (tkL (tkL (tkL L 1) 1) 2):=I.drop _;have al:ze (L,E)=((num (tkB L 1),num (tkB (tkL L 1) 1),num (tkB (tkL (tkL L 1) 1) 2)),(tkL (tkL (tkL L 1) 1) 2,tkE (tkL (tkL L 1) 1) 2 (tkE (tkL L 1) 1 (tkE L 1 E)))):=rfl;have ai:qP (L,E)=vG (ze (L,E)).1.1 (ze (L,E)).1.2.1 (ze (L,E)).1.2.2 (ua (ze (L,E)).1.1 (ze (L,E)).2):=rfl;rw[ai] at h ⊢;rw[al] at h ⊢;simp only at h ⊢;generalize ah:tkL (tkL (tkL L 1) 1) 2=L3 at *;generalize ag:tkE (tkL (tkL L 1) 1) 2 (tkE (tkL L 1) 1 (tkE L 1 E))=E3 at *;generalize aj:num (tkB L 1)=f at *;generalize ar:num (tkB (tkL L 1) 1)=t at *;generalize U:num (tkB (tkL (tkL L 1) 1) 2)=n at *;have ak:ua f (L3,E3)=(L3,E3)/\128<=f/\f<=191:=by
  by_cases x:f<128∨191<f
  ·exfalso;have e:ua f (L3,E3)=wrS (L3,E3) 2:=by unfold ua;rw[ϐ x]
   rw[e] at h;have Y:=Ym (L3,E3);generalize wrS (L3,E3) 2=s at *;unfold vG at h;split at h
   ·exact Y (NT h).1
   ·simp only at h;split at h
    ·exact Ym _ h
    ·exact Y (NT h).1
  ·exact⟨by unfold ua;rw[ώ x],τ,τ⟩
 obtain⟨ae,aG,aH⟩:=ak;rw[ae] at h ⊢;have av:tkE L3 (4* n) E3=0:=by
  unfold vG at h;split at h
  ·exact h
  ·simp only at h;split at h
   ·exact ϩ h (Ym _)
   ·exact h
 obtain⟨aa,ap⟩:=NT av;rw[<-ag] at aa;obtain⟨ay,ao⟩:=NT aa;obtain⟨ax,an⟩:=NT ay;obtain⟨aw,am⟩:=NT ax;subst aw;obtain⟨az,aC⟩:=uM ζ am;obtain⟨aA,aD⟩:=uM ζ an;obtain⟨ab,ac⟩:=uM ζ ao;have aq:=zv _ 2 (jL I 2) (by rw[ac];decide) ζ;rw[U] at aq;obtain⟨aB,aE⟩:=uM (l:=L3) (n:=4* n) τ ap;have w1:=gR (jL O 1) 1 aC ζ;have w2:=gR (jL M 1) 1 aD ζ;have ad:=gR (jL I 2) 2 ac ζ;rw[aj] at w1;rw[ar] at w2;rw[U] at ad;rw[ah] at ab;have N:L=qy f 1++(qy t 1++(qy n 2++(tkB L3 (4* n)++tkL L3 (4* n)))):=by
  conv=>lhs;rw[az,aA,ab,aB]
  rw[show qy f 1=tkB L 1 from w1,show qy t 1=tkB (tkL L 1) 1 from w2,show qy n 2=tkB (tkL (tkL L 1) 1) 2 from ad]
 have aI:L.length=4+(tkB L3 (4* n)).length+(tkL L3 (4* n)).length:=by
  conv=>lhs;rw[N]
  simp only[Ϗ,qK _ _ (show (0:Int)<=1/\(1:Int)<=8 by decide),qK _ _ (show (0:Int)<=2/\(2:Int)<=8 by decide)];simp;omega
 refine⟨rfl, ?_⟩;unfold vG at h ⊢;by_cases hp:f%64<32
 ·rw[ϐ hp];have H:tkS (L3,E3) (4* n)=(tkL L3 (4* n),tkE L3 (4* n) E3):=rfl;rw[H];simp only;have d:chB (f%32,t,tkB L3 (4* n),())=qy f 1++(qy t 1++(qy n 2++tkB L3 (4* n))):=by
   unfold chB;simp only;rw[show 128+f%32=f by omega,aE,show 4* n/4=n by omega]
  have J:=YJ (f%32,t,tkB L3 (4* n),());simp only at J;refine⟨τ,τ,τ,λ_=> ?_⟩;rw[d]
  conv=>rhs;rw[N]
  simp only[ϭ]
 ·rw[ώ hp] at h ⊢;simp only at h ⊢;have H:tkS (L3,E3) (4* n)=(tkL L3 (4* n),tkE L3 (4* n) E3):=rfl;rw[H] at h ⊢;by_cases d:(xg (tkB L3 (4* n))).2=ύ∨ ¬(tkL L3 (4* n),tkE L3 (4* n) E3).1=[]
  ·rw[ϐ d] at h;exact ϩ h (Ym _)
  ·rw[ώ d];have au:(xg (tkB L3 (4* n))).2=ό:=by
    cases x:(xg (tkB L3 (4* n))).2 with
    | true=>rfl
    | false=>exact ϩ (ϑ x) d
   obtain⟨aJ,aF⟩:=Gy (jL af (4* n)) au;have J:=YJ (f%32,t,(xg (tkB L3 (4* n))).1,());simp only at J ⊢;refine⟨τ,aF τ,τ,λx=>by omega⟩
def jK (h:Byt s.1) (n:Int):Byt (tkS s n).1:=h.drop _
def gu (h:Byt s.1) (x:Int):Byt (wrS s x).1:=by
 unfold wrS;split
 ·exact h
 ·exact xh
def GQ (h:Byt s.1):Byt (qP s).2.1:=by
 have H:Byt (ze s).2.1:=jK (jK (jK h 1) 1) 2;have d:Byt (ua (ze s).1.1 (ze s).2).1:=by
  unfold ua;split
  ·exact gu H 2
  ·exact H
 show Byt (vG _ _ _ _).2.1;unfold vG;split
 ·exact jK d _
 ·simp only;split
  ·exact gu (jK d _) 2
  ·exact jK d _
def uv (c:qQ) (l:List qQ):flC (c::l)=chB c++flC l:=rfl
def QX: ∀(n:Nat) (acc:List qQ) (L:List Int) (E:Int),Byt L->L.length<n->(vd n acc (L,E)).2.2=0->
  ∃k,(vd n acc (L,E)).1=acc++k/\E=0/\(∀c∈k,c.1<=31/\c.2.2.1.length%4=0)/\(flC k).length<=L.length/\((flC k).length=L.length->flC k=L)
 | 0,_,_,_,_,h,_=>by omega
 | n+1,acc,L,E,hb,hn,h=>by
  have U:=ZC (L,E);rw[vd] at h ⊢;by_cases e:(qP (L,E)).2.1=[]
  ·rw[ϐ e] at h ⊢;obtain⟨I,J,M,N,H⟩:=Xy L E hb h;rw[e] at N H;refine⟨[(qP (L,E)).1],rfl,I,λc d=> ?_, ?_, ?_⟩
   ·simp at d;subst d;exact⟨J,M⟩
   ·rw[uv];simpa [flC] using N
   ·rw[uv];simpa [flC] using H
  ·rw[ώ e] at h ⊢;have ad:=C1.2 e;have O:Byt (qP (L,E)).2.1:=GQ hb;obtain⟨k,Y,aa,ab,ae,ac⟩:=QX n (acc++[(qP (L,E)).1]) (qP (L,E)).2.1 (qP (L,E)).2.2 O (by simp only at U;omega) h;obtain⟨I,J,M,N,H⟩:=Xy L E hb aa;refine⟨(qP (L,E)).1::k,by rw[Y];simp,I,λc d=> ?_, ?_,λx=> ?_⟩
   ·simp at d;rcases d with rfl | d
    ·exact⟨J,M⟩
    ·exact ab c d
   ·rw[uv,Ϗ];omega
   ·rw[uv,Ϗ] at x;rw[uv,ac τ];exact H τ
def D9: ∀(l:List Nat) (x:Nat),x∈l->x<=l.sum
 | y::l,x,h=>by
  simp at h;rcases h with rfl | h
  ·simp
  ·have:=D9 l x h;simp;omega
def QY {k:List qQ} (J:Byt b) (h:jI b=(k,0)):vW k=(flC k,0)/\(flC k).length<=b.length/\((flC k).length=b.length->flC k=b)/\szC k<=200:=by
 unfold jI at h;split at h
 ·cases h
 ·rename_i aa;split at h
  ·rename_i N;obtain⟨k',O,_,H,U,Y⟩:=QX (b.length+1) [] b 0 J τ N;rw[O] at h;obtain rfl:k'=k:=by injection h
   have M:szC k'<=200:=by rw[<-YH];omega
   refine⟨?_,U,Y,M⟩;have I:k'.all jx=ό:=by
    rw[I4];intro c d;have ab:4+c.2.2.1.length<=szC k':=by
     unfold szC;exact D9 _ _ (E0.2 ⟨c,d,rfl⟩)
    rw[zO];exact⟨(H c d).1,(H c d).2,τ⟩
   unfold vW;rw[ώ (by rw[I];simp),ώ τ]
  ·rename_i x;exact ϩ (ϵ Prod.snd h) x
def Cc {l:List qQ} {x:List Int} (h:vW l=(x,0)):x=flC l/\(∀c∈l,jx c=ό)/\szC l<=200:=by
 unfold vW at h;split at h
 ·cases h
 ·rename_i d;split at h
  ·cases h
  ·rename_i I;have H:flC l=x:=by injection h
   refine⟨H.symm, ?_,τ⟩;have:l.all jx=ό:=by
    cases y:l.all jx with
    | true=>rfl
    | false=>exact ϩ y d
   exact I4.1 this
section
open Go.RowKit Go.ChangeShapes
structure Blk where
 src:Int
 part:Int
 miss:Int
 high:Int
 jit:Int
 last:Int
 dly:Int
def Blk.tup (b:Blk):Int×Int×Int×Int×Int×Int×Int:=(b.src,b.part,b.miss,b.high,b.jit,b.last,b.dly)
def Blk.tup_inj {a b:Blk} (h:a.tup=b.tup):a=b:=by
 obtain⟨⟩:=a;obtain⟨⟩:=b;simp only[Blk.tup,C7] at h;simp[h]
instance:DecidableEq Blk:=λ_ _=>decidable_of_iff _ ⟨Blk.tup_inj,λh=>by rw[h]⟩
structure Inf where
 sec:Int
 frac:Int
 stamp:Int
 pkts:Int
 octs:Int
def Inf.tup (b:Inf):Int×Int×Int×Int×Int:=(b.sec,b.frac,b.stamp,b.pkts,b.octs)
def Inf.tup_inj {a b:Inf} (h:a.tup=b.tup):a=b:=by
 obtain⟨⟩:=a;obtain⟨⟩:=b;simp only[Inf.tup,C7] at h;simp[h]
instance:DecidableEq Inf:=λ_ _=>decidable_of_iff _ ⟨Inf.tup_inj,λh=>by rw[h]⟩
structure Rep where
 snd:Bool
 src:Int
 inf:Inf
 bl:List Blk
def Rep.tup (b:Rep):Bool×Int×Inf×List Blk:=(b.snd,b.src,b.inf,b.bl)
def Rep.tup_inj {a b:Rep} (h:a.tup=b.tup):a=b:=by
 obtain⟨⟩:=a;obtain⟨⟩:=b;simp only[Rep.tup,C7] at h;simp[h]
instance:DecidableEq Rep:=λ_ _=>decidable_of_iff _ ⟨Rep.tup_inj,λh=>by rw[h]⟩
structure QS (b:Blk):Prop where
 src:U32 b.src
 part:0<=b.part/\b.part<=255
 miss: -2147483648<=b.miss/\b.miss<=2147483647
 high:U32 b.high
 jit:U32 b.jit
 last:U32 b.last
 dly:U32 b.dly
structure Wv (b:Inf):Prop where
 sec:U32 b.sec
 frac:U32 b.frac
 stamp:U32 b.stamp
 pkts:U32 b.pkts
 octs:U32 b.octs
structure Zx (r:Rep):Prop where
 src:U32 r.src
 inf:Wv r.inf
 bl: ∀b∈r.bl,QS b
def Blk.cells (b:Blk):List Value:=[.int .u32 b.src,.int .u8 b.part,.int .i32 b.miss,.int .u32 b.high,.int .u32 b.jit,.int .u32 b.last,.int .u32 b.dly]
def Yj:qL Blk:=λ_ cs b=>cs=b.cells/\QS b
def Ca:QQ Yj:=λ_ _ _ _ _ h=>h
def Ei {n:Nat} {R:qL α} {L:List α} (h:SlP n R w v L) {p:α->Prop} (I: ∀cs y,R w cs y->p y): ∀b∈L,p b:=by
 obtain⟨_,_,_,_,d,_⟩:=h;intro b H;obtain⟨i,hi,rfl⟩:=A0.1 H;obtain⟨_,_,_,_,_,_,_,J⟩:=d i hi;exact I _ _ J
def Γm (x:Rep) (a:Option Addr) (b:Nat):Mm:=.o
instance (x:Rep) (a:Option Addr) (b:Nat):CoeDep Mm (Γm x a b) (List Value):=⟨[μ x.snd,ω x.src,ω x.inf.sec,ω x.inf.frac,ω x.inf.stamp,ω x.inf.pkts,ω x.inf.octs,δ a x.bl.length b]⟩
instance (x:Rep) (a:Option Addr) (b:Nat):CoeDep Mm (Γm x a b) (Array Value):=⟨((Γm x a b):List Value).toArray⟩
instance (x:Rep) (a:Option Addr) (b:Nat):CoeDep Mm (Γm x a b) Value:=⟨θ (Γm x a b)⟩
def Γn (s:Bool) (r:Int) (x:Inf) (a:Option Addr) (l:List Blk) (b:Nat):Mm:=.o
instance (s:Bool) (r:Int) (x:Inf) (a:Option Addr) (l:List Blk) (b:Nat):CoeDep Mm (Γn s r x a l b) (List Value):=⟨[μ s,ω r,ω x.sec,ω x.frac,ω x.stamp,ω x.pkts,ω x.octs,δ a l.length b]⟩
instance (s:Bool) (r:Int) (x:Inf) (a:Option Addr) (l:List Blk) (b:Nat):CoeDep Mm (Γn s r x a l b) (Array Value):=⟨((Γn s r x a l b):List Value).toArray⟩
instance (s:Bool) (r:Int) (x:Inf) (a:Option Addr) (l:List Blk) (b:Nat):CoeDep Mm (Γn s r x a l b) Value:=⟨θ (Γn s r x a l b)⟩
end
def Jj:Inf:=⟨0,0,0,0,0⟩
def Qh:Rep:=⟨ύ,0,Jj,[]⟩
def kD (b:Blk):Bool:=decide (-8388608<=b.miss/\b.miss<=8388607)
def vN (r:Rep):Bool:=(r.snd||decide (r.inf=Jj))&&r.bl.all kD&&decide (r.bl.length<=if r.snd then 7 else 8)
def JK (b:Blk):List Int:=qy b.src 4++(qy b.part 1++(qy (b.miss%4294967296) 3++(qy b.high 4++(qy b.jit 4++(qy b.last 4++qy b.dly 4)))))
def flR (l:List Blk):List Int:=l.flatMap JK
def Yf (i:Inf):List Int:=qy i.sec 4++(qy i.frac 4++(qy i.stamp 4++(qy i.pkts 4++qy i.octs 4)))
def Zu (r:Rep):List Int:=qy r.src 4++(if r.snd then Yf r.inf else [])
def Za (r:Rep):List Int:=Zu r++flR r.bl
def Qm (r:Rep):qQ×Int:=if vN r then (((r.bl.length:Int),(if r.snd then 200 else 201),Za r,()),0) else ((0,0,[],()),1)
def xP (s:RdS):Int:=num (tkB s.1 4)
def jA (s:RdS):Inf×RdS:=
 (⟨xP s,xP (tkS s 4),xP (tkS (tkS s 4) 4),xP (tkS (tkS (tkS s 4) 4) 4),xP (tkS (tkS (tkS (tkS s 4) 4) 4) 4)⟩,tkS (tkS (tkS (tkS (tkS s 4) 4) 4) 4) 4)
def qM (s:RdS):Blk×RdS:=
 (⟨xP s,num (tkB (tkS s 4).1 1),sgd (num (tkB (tkS (tkS s 4) 1).1 3)) 24,xP (tkS (tkS (tkS s 4) 1) 3),xP (tkS (tkS (tkS (tkS s 4) 1) 3) 4),xP (tkS (tkS (tkS (tkS (tkS s 4) 1) 3) 4) 4),xP (tkS (tkS (tkS (tkS (tkS (tkS s 4) 1) 3) 4) 4) 4)⟩,tkS (tkS (tkS (tkS (tkS (tkS (tkS s 4) 1) 3) 4) 4) 4) 4)
def js:Nat->RdS->List Blk×RdS
 | 0,s=>([],s)
 | n+1,s=>((qM s).1::(js n (qM s).2).1,(js n (qM s).2).2)
def wM (s:RdS):Int:=if ¬s.2=0 then s.2 else if 0<s.1.length then 4 else 0
def yZ (r:Rep) (s:RdS):Rep×Int:=if wM s=0 then (r,0) else (Qh,wM s)
def qG (c:qQ):Rep×Int:=
 if jx c=ύ then (Qh,1)
 else if c.2.1=200 then yZ ⟨ό,xP (c.2.2.1,0),(jA (tkS (c.2.2.1,0) 4)).1,(js c.1.toNat (jA (tkS (c.2.2.1,0) 4)).2).1⟩ (js c.1.toNat (jA (tkS (c.2.2.1,0) 4)).2).2
 else if c.2.1=201 then yZ ⟨ύ,xP (c.2.2.1,0),Jj,(js c.1.toNat (tkS (c.2.2.1,0) 4)).1⟩ (js c.1.toNat (tkS (c.2.2.1,0) 4)).2
 else (Qh,5)
def Oy (h:Jm s):(jA s).2=adv s 20:=by
 show tkS (tkS (tkS (tkS (tkS s (4:Nat)) (4:Nat)) (4:Nat)) (4:Nat)) (4:Nat)=_;rw[gz 4 h,xF,xF,xF,xF]
def Oz (h:Jm s):(qM s).2=adv s 24:=by
 show tkS (tkS (tkS (tkS (tkS (tkS (tkS s (4:Nat)) (1:Nat)) (3:Nat)) (4:Nat)) (4:Nat)) (4:Nat)) (4:Nat)=_;rw[gz 4 h,xF,xF,xF,xF,xF,xF]
def uB: ∀(n:Nat) {s:RdS},Jm s->(js n s).2=adv s (24* n)
 | 0,s,h=>by rw[Nat.mul_zero,Cu h];rfl
 | n+1,s,h=>by
  show (js n (qM s).2).2=_;rw[uB n (by rw[Oz h];exact vj _ _),Oz h,gG]
  congr 1
  omega
def uz: ∀(n:Nat) (s:RdS),(js n s).1.length=n
 | 0,_=>rfl
 | n+1,s=>by
  show ((qM s).1::(js n (qM s).2).1).length=_;rw[ϙ,uz n]
def QM (c:qQ):Nat:=4+(if c.2.1=200 then 20 else 0)+24* c.1.toNat
def II (l:List Int):wM (l,0)=if 0<l.length then 4 else 0:=by unfold wM;rw[ώ η]
def IH:wM ([],3)=3:=by decide
def Fo (r:Rep) (s:RdS):(yZ r s).2=wM s:=by
 unfold yZ;split
 ·rename_i h;exact h.symm
 ·rfl
def GJ (c:qQ) (I:jx c=ό) (d:c.2.1=200∨c.2.1=201):(qG c).2=if c.2.2.1.length<QM c then 3 else if QM c<c.2.2.1.length then 4 else 0:=by
 have J:Jm (c.2.2.1,0):=λh=>ϩ rfl h
 have key: ∀(r:Rep) (s:RdS) (k:Nat),s=adv (c.2.2.1,0) k->(yZ r s).2=if c.2.2.1.length<k then 3 else if k<c.2.2.1.length then 4 else 0:=by
  rintro r s k rfl;rw[Fo];unfold adv;simp only[A7];by_cases h:k<=c.2.2.1.length
  ·rw[ϐ h,II,Ϣ];by_cases h2:k<c.2.2.1.length
   ·rw[ϐ τ,ώ τ,ϐ h2]
   ·rw[ώ τ,ώ τ,ώ h2]
  ·rw[ώ h,IH,ϐ τ]
 unfold qG;rw[ώ (by rw[I];simp)];have H:tkS (c.2.2.1,0) 4=adv (c.2.2.1,0) 4:=gz 4 J;rcases d with d | d
 ·rw[ϐ d];refine key _ _ _ ?_;rw[uB _ (by rw[Oy (by rw[H];exact vj _ _)];exact vj _ _),Oy (by rw[H];exact vj _ _),H,gG,gG];unfold QM;rw[ϐ d,M7]
 ·rw[ώ (by rw[d];decide),ϐ d];refine key _ _ _ ?_;rw[uB _ (by rw[H];exact vj _ _),H,gG];unfold QM;rw[ώ (by rw[d];decide),G1]
def xd (x:Int) (d:U32 x) (r:List Int):xP (qy x 4++r,0)=x/\tkS (qy x 4++r,0) 4=(r,0):=by
 obtain⟨H,I⟩:=JY x 4 ζ r;refine⟨?_,H⟩;unfold xP;simp only;rw[show tkB (qy x 4++r) 4=qy x 4 from I];exact Xi x 4 d.1 ζ (by have:=d.2;show x<4294967296;omega)
def YX (i:Inf) (h:Wv i) (r:List Int):jA (Yf i++r,0)=(i,(r,0)):=by
 unfold Yf;simp only[ϭ];obtain⟨d,I⟩:=xd i.sec h.sec (qy i.frac 4++(qy i.stamp 4++(qy i.pkts 4++(qy i.octs 4++r))));obtain⟨H,J⟩:=xd i.frac h.frac (qy i.stamp 4++(qy i.pkts 4++(qy i.octs 4++r)));obtain⟨a3,M⟩:=xd i.stamp h.stamp (qy i.pkts 4++(qy i.octs 4++r));obtain⟨a4,N⟩:=xd i.pkts h.pkts (qy i.octs 4++r);obtain⟨a5,O⟩:=xd i.octs h.octs r;unfold jA;simp only[d,I,H,J,a3,M,a4,N,a5,O]
def LT (x:Int) (h: -8388608<=x/\x<=8388607):sgd (x%16777216) 24=x:=by
 have d:two 24=16777216:=by decide
 have H:two (24-1)=8388608:=by decide
 unfold sgd;rw[d,H,ώ ζ];split<;>omega
def YZ (b:Blk) (h:QS b) (ad:kD b=ό) (r:List Int):qM (JK b++r,0)=(b,(r,0)):=by
 have ae: -8388608<=b.miss/\b.miss<=8388607:=by simpa [kD] using ad
 unfold JK;simp only[ϭ];obtain⟨M,U⟩:=xd b.src h.src (qy b.part 1++(qy (b.miss%4294967296) 3++(qy b.high 4++(qy b.jit 4++(qy b.last 4++(qy b.dly 4++r))))));obtain⟨H,d⟩:=JY b.part 1 ζ (qy (b.miss%4294967296) 3++(qy b.high 4++(qy b.jit 4++(qy b.last 4++(qy b.dly 4++r)))));obtain⟨I,a3⟩:=JY (b.miss%4294967296) 3 ζ (qy b.high 4++(qy b.jit 4++(qy b.last 4++(qy b.dly 4++r))));obtain⟨a4,Y⟩:=xd b.high h.high (qy b.jit 4++(qy b.last 4++(qy b.dly 4++r)));obtain⟨a5,aa⟩:=xd b.jit h.jit (qy b.last 4++(qy b.dly 4++r));obtain⟨N,ab⟩:=xd b.last h.last (qy b.dly 4++r);obtain⟨O,ac⟩:=xd b.dly h.dly r;have n2:num (qy b.part (1:Nat))=b.part:=Xi _ 1 h.part.1 ζ (by have:=h.part.2;show b.part<256;omega);have J:sgd (num (qy (b.miss%4294967296) (3:Nat))) 24=b.miss:=by
  have e:qy (b.miss%4294967296) (3:Nat)=qy (b.miss%4294967296%16777216) (3:Nat):=(QH _).symm;rw[e,Xi _ 3 τ ζ (by show _<16777216;omega),show b.miss%4294967296%16777216=b.miss%16777216 by omega];exact LT _ ae
 unfold qM;have H:tkS (qy b.part 1++(qy (b.miss%4294967296) 3++(qy b.high 4++(qy b.jit 4++(qy b.last 4++(qy b.dly 4++r))))),0) 1=(qy (b.miss%4294967296) 3++(qy b.high 4++(qy b.jit 4++(qy b.last 4++(qy b.dly 4++r)))),0):=H;have d:tkB (qy b.part 1++(qy (b.miss%4294967296) 3++(qy b.high 4++(qy b.jit 4++(qy b.last 4++(qy b.dly 4++r)))))) 1=qy b.part 1:=d;have I:tkS (qy (b.miss%4294967296) 3++(qy b.high 4++(qy b.jit 4++(qy b.last 4++(qy b.dly 4++r)))),0) 3=(qy b.high 4++(qy b.jit 4++(qy b.last 4++(qy b.dly 4++r))),0):=I;have a3:tkB (qy (b.miss%4294967296) 3++(qy b.high 4++(qy b.jit 4++(qy b.last 4++(qy b.dly 4++r))))) 3=qy (b.miss%4294967296) 3:=a3;have n2:num (qy b.part 1)=b.part:=n2;have J:sgd (num (qy (b.miss%4294967296) 3)) 24=b.miss:=J;simp only[M,U,d,H,a3,I,a4,Y,a5,aa,N,ab,O,ac,n2,J]
def Xm (b:Blk) (l:List Blk):flR (b::l)=JK b++flR l:=rfl
def uA: ∀(l:List Blk) (r:List Int),(∀b∈l,QS b/\kD b=ό)->js l.length (flR l++r,0)=(l,(r,0))
 | [],r,_=>rfl
 | b::l,r,h=>by
  have d:=h b η;rw[Xm,ϭ];show ((qM (JK b++(flR l++r),0)).1::(js l.length (qM (JK b++(flR l++r),0)).2).1,(js l.length (qM (JK b++(flR l++r),0)).2).2)=_;rw[YZ b d.1 d.2,uA l r (λc H=>h c (by simp[H]))]
def kM (r:Rep):vN r=ό↔(r.snd=ύ->r.inf=Jj)/\(∀b∈r.bl,kD b=ό)/\r.bl.length<=if r.snd then 7 else 8:=by
 unfold vN;simp only[B4,S5,B3,I4];constructor
 ·rintro⟨⟨d,H⟩,I⟩;refine⟨λh=> ?_,H,I⟩;rcases d with d | d
  ·rw[h] at d;cases d
  ·exact d
 ·rintro⟨d,H,I⟩;refine⟨⟨?_,H⟩,I⟩;cases hs:r.snd with
  | true=>exact ϑ rfl
  | false=>exact ϕ (d hs)
def VW (b:Blk):(JK b).length=24:=by
 unfold JK;simp only[Ϗ,qK _ _ (show (0:Int)<=4/\(4:Int)<=8 by decide),qK _ _ (show (0:Int)<=1/\(1:Int)<=8 by decide),qK _ _ (show (0:Int)<=3/\(3:Int)<=8 by decide)]
 decide
def VN (i:Inf):(Yf i).length=20:=by
 unfold Yf;simp only[Ϗ,qK _ _ (show (0:Int)<=4/\(4:Int)<=8 by decide)]
 decide
def YG (l:List Blk):(flR l).length=24* l.length:=by
 induction l with
 | nil=>rfl
 | cons b l ih=>rw[Xm,Ϗ,VW,ih,ϙ];omega
def Bc (r:Rep):(Za r).length=4+(if r.snd then 20 else 0)+24* r.bl.length:=by
 unfold Za Zu;rw[Ϗ,Ϗ,YG,qK _ _ ζ];cases r.snd with
 | true=>simp[VN]
 | false=>simp
def kK {r:Rep} (h:vN r=ό):Qm r=(((r.bl.length:Int),(if r.snd then 200 else 201),Za r,()),0):=by unfold Qm;rw[ϐ h]
def YO {r:Rep} (h:vN r=ό):jx (Qm r).1=ό:=by
 obtain⟨_,_,d⟩:=(kM r).1 h;rw[kK h,zO];have H:=Bc r;simp only;cases hs:r.snd with
 | true=>rw[hs] at d H;simp at d H;omega
 | false=>rw[hs] at d H;simp at d H;omega
def YW {r:Rep} (H:Zx r) (h:vN r=ό):qG (Qm r).1=(r,0):=by
 have U:=YO h;obtain⟨N,O,Y⟩:=(kM r).1 h;unfold qG;rw[ώ (by rw[U];simp),kK h];obtain⟨s,src,i,bl⟩:=r;simp only at *;have d: ∀b∈bl,QS b/\kD b=ό:=λb d=>⟨H.bl b d,O b d⟩
 have M:yZ ⟨s,src,i,bl⟩ ([],0)=(⟨s,src,i,bl⟩,0):=rfl;cases s with
 | true=>
  have e:Za ⟨ό,src,i,bl⟩=qy src 4++(Yf i++(flR bl++[])):=by unfold Za Zu;simp[ϭ]
  rw[e];obtain⟨I,J⟩:=xd src H.src (Yf i++(flR bl++[]));simp only[A7,I,J,YX i H.inf,Ψ,uA bl [] d,M]
 | false=>
  have hi:i=Jj:=N rfl;subst hi;have e:Za ⟨ύ,src,Jj,bl⟩=qy src 4++(flR bl++[]):=by unfold Za Zu;simp[ϭ]
  rw[e];obtain⟨I,J⟩:=xd src H.src (flR bl++[]);simp only[I,J,Ψ,uA bl [] d];exact M
abbrev U8 (n:Int):Prop:=0<=n/\n<=255
def ahd (a b:Int):Int:=(b-a+32768)%65536-32768
def tb (m:Int) (k:Nat):Bool:=m.toNat.testBit k
def prN (p:Int×Int):List Int:=p.1::((List.range 16).filter (tb p.2)).map λk:Nat=>(p.1+k+1)%65536
def prJ (l:List (Int×Int)) (n:Int):Prop:= ¬l=[]/\1<=ahd (l.getLastD (0,0)).1 n/\ahd (l.getLastD (0,0)).1 n<=16
instance (l:List (Int×Int)) (n:Int):Decidable (prJ l n):=by unfold prJ;infer_instance
def WM (p:Int×Int):1<=(prN p).length/\(prN p).length<=17:=by
 unfold prN;rw[ϙ,B9];have:=D3 (tb p.2) (List.range 16);rw[N6] at this;omega
def Kn (h:l≠[]):l.getLastD 0=l.getD (l.length-1) 0:=by
 rw[List.getLastD_eq_getLast?,List.getLast?_eq_getElem?,ϒ]
structure Msg where
 kind:Int
 snd:Int
 med:Int
 asks:List (Int×Int)
 lost:List Int
def Msg.tup (b:Msg):Int×Int×Int×List (Int×Int)×List Int:=(b.kind,b.snd,b.med,b.asks,b.lost)
def Msg.tup_inj {a b:Msg} (h:a.tup=b.tup):a=b:=by
 obtain⟨⟩:=a;obtain⟨⟩:=b;simp only[Msg.tup,C7] at h;simp[h]
instance:DecidableEq Msg:=λ_ _=>decidable_of_iff _ ⟨Msg.tup_inj,λh=>by rw[h]⟩
structure Zz (m:Msg):Prop where
 snd:U32 m.snd
 med:U32 m.med
 asks: ∀a∈m.asks,U32 a.1/\U8 a.2
 lost: ∀x∈m.lost,U16 x
def JI:Msg:=⟨0,0,0,[],[]⟩
def gC:Zz JI:=⟨ζ,ζ,(λa h=>by cases h),(λa h=>by cases h)⟩
def Zv (k:Int):Int×Int:=if k=1 then (206,1) else if k=2 then (206,4) else (205,1)
def zy (c:qQ):Int:=if c.2.1=206/\c.1=1 then 1 else if c.2.1=206/\c.1=4 then 2 else if c.2.1=205/\c.1=1 then 3 else 0
def wu (s:RdS):(Int×Int)×RdS:=((xP s,num (tkB (tkS s 4).1 1)),tkS (tkS (tkS s 4) 1) 3)
def jm:Nat->List (Int×Int)->RdS->List (Int×Int)×RdS
 | 0,acc,s=>(acc,s)
 | n+1,acc,s=>if s.1=[] then (acc,s) else jm n (acc++[(wu s).1]) (wu s).2
def prS (s:RdS):(Int×Int)×RdS:=((num (tkB s.1 2),num (tkB (tkS s 2).1 2)),tkS (tkS s 2) 2)
def gm (acc:List Int) (p:Int×Int) (s:RdS):RdS:=if ¬acc=[]/\ ¬0<ahd (acc.getLastD 0) p.1 then wrS s 2 else s
def jc:Nat->List Int->RdS->List Int×RdS
 | 0,acc,s=>(acc,s)
 | n+1,acc,s=>if s.1=[] then (acc,s) else jc n (acc++prN (prS s).1) (gm acc (prS s).1 (prS s).2)
def zz (b:Int) (s:RdS):RdS:=if ¬b=0∨s.1.length=0∨ ¬s.1.length%8=0 then wrS s 2 else s
def xK (s:RdS):RdS:=if s.1.length=0 then wrS s 2 else s
def vX (m:Msg) (s:RdS):Msg×Int:=if wM s=0 then (m,0) else (JI,wM s)
def vD (k a b:Int) (s:RdS):Msg×Int:=
 if k=2 then vX ⟨2,a,b,(jm s.1.length [] (zz b s)).1,[]⟩ (jm s.1.length [] (zz b s)).2
 else if k=3 then vX ⟨3,a,b,[],(jc s.1.length [] (xK s)).1⟩ (jc s.1.length [] (xK s)).2
 else vX ⟨k,a,b,[],[]⟩ s
def qJ (c:qQ):Msg×Int:=
 if jx c=ύ then (JI,1)
 else if zy c=0 then (JI,5)
 else vD (zy c) (xP (c.2.2.1,0)) (xP (tkS (c.2.2.1,0) 4)) (tkS (tkS (c.2.2.1,0) 4) 4)
def zE (n:Nat) (acc:List (Int×Int)) (e:Int):jm n acc ([],e)=(acc,([],e)):=by
 cases n with
 | zero=>rfl
 | succ n=>unfold jm;rw[ϐ rfl]
def wE (n:Nat) (acc:List Int) (e:Int):jc n acc ([],e)=(acc,([],e)):=by
 cases n with
 | zero=>rfl
 | succ n=>unfold jc;rw[ϐ rfl]
def WR (h:Byt s.1):U16 (num (tkB s.1 2)):=by
 have:=zv (tkB s.1 2) 2 (jL h 2) (zh s.1 2 ζ) ζ;exact⟨this.1,τ⟩
def Iq (h:Byt s.1):U8 (num (tkB s.1 1)):=by
 have:=zv (tkB s.1 1) 1 (jL h 1) (zh s.1 1 ζ) ζ;exact⟨this.1,τ⟩
def Jx (h:Byt s.1):U32 (xP s):=by
 have:=zv (tkB s.1 4) 4 (jL h 4) (zh s.1 4 ζ) ζ;exact⟨this.1,by show num (tkB s.1 4)<=4294967295;omega⟩
def Gc (h:Byt s.1):U32 (wu s).1.1/\U8 (wu s).1.2/\Byt (wu s).2.1:=⟨Jx h,Iq (jK h 4),jK (jK (jK h 4) 1) 3⟩
def DZ (h:Byt s.1):U16 (prS s).1.1/\U16 (prS s).1.2/\Byt (prS s).2.1:=⟨WR h,WR (jK h 2),jK (jK h 2) 2⟩
def BM {acc:List Int} (h:Byt s.1):Byt (gm acc p s).1:=by
 unfold gm;split
 ·exact gu h 2
 ·exact h
def Jw (h:U16 p.1): ∀x∈prN p,U16 x:=by
 intro x d;unfold prN at d;rcases Ϯ.1 d with rfl | d
 ·exact h
 ·obtain⟨k,_,rfl⟩:=E0.1 d;constructor<;>omega
def gY: ∀(n:Nat) (acc:List (Int×Int)) (s:RdS),Byt s.1->(∀a∈acc,U32 a.1/\U8 a.2)-> ∀a∈(jm n acc s).1,U32 a.1/\U8 a.2
 | 0,_,_,_,h=>h
 | n+1,acc,s,hb,h=>by
  unfold jm;split
  ·exact h
  ·obtain⟨H,I,a3⟩:=Gc hb;refine gY n _ _ a3 λa d=> ?_
   rcases ϯ.1 d with d | d
   ·exact h a d
   ·rw[C0] at d;subst d;exact⟨H,I⟩
def gX: ∀(n:Nat) (acc:List Int) (s:RdS),Byt s.1->(∀a∈acc,U16 a)-> ∀a∈(jc n acc s).1,U16 a
 | 0,_,_,_,h=>h
 | n+1,acc,s,hb,h=>by
  unfold jc;split
  ·exact h
  ·obtain⟨H,I,a3⟩:=DZ hb;refine gX n _ _ (BM a3) λa d=> ?_
   rcases ϯ.1 d with d | d
   ·exact h a d
   ·exact Jw H a d
def QF {m:Msg} (h:Zz m):Zz (vX m s).1:=by
 unfold vX;split
 ·exact h
 ·exact gC
def Dk {b:Int} (h:Byt s.1):Byt (zz b s).1:=by
 unfold zz;split
 ·exact gu h 2
 ·exact h
def Pt (h:Byt s.1):Byt (xK s).1:=by
 unfold xK;split
 ·exact gu h 2
 ·exact h
def Bb {k a b:Int} (J:Byt s.1) (H:U32 a) (I:U32 b):Zz (vD k a b s).1:=by
 unfold vD;split
 ·exact QF ⟨H,I,gY _ _ _ (Dk J) (λx d=>by cases d),(λx d=>by cases d)⟩
 ·split
  ·exact QF ⟨H,I,(λx d=>by cases d),gX _ _ _ (Pt J) (λx d=>by cases d)⟩
  ·exact QF ⟨H,I,(λx d=>by cases d),(λx d=>by cases d)⟩
def Bg {c:qQ} (H:xk c):Zz (qJ c).1:=by
 have d:Byt ((c.2.2.1,0):RdS).1:=H.byt;unfold qJ;split
 ·exact gC
 ·split
  ·exact gC
  ·exact Bb (jK (jK d 4) 4) (Jx d) (Jx (jK d 4))
def UP {c:qQ} (h: ¬zy c=0):Zv (zy c)=(c.2.1,c.1)/\(zy c=1∨zy c=2∨zy c=3):=by
 unfold zy at h ⊢;unfold Zv;split
 ·rename_i e;exact⟨by rw[e.1,e.2];rfl,η⟩
 ·split
  ·rename_i e;exact⟨by rw[e.1,e.2];rfl,η⟩
  ·split
   ·rename_i e;exact⟨by rw[e.1,e.2];rfl,η⟩
   ·rename_i d H I;rw[ώ d,ώ H,ώ I] at h;exact ϩ rfl h
def Γp (x:Msg) (a:Option Addr) (b:Nat) (c:Option Addr) (d:Nat):Mm:=.o
instance (x:Msg) (a:Option Addr) (b:Nat) (c:Option Addr) (d:Nat):CoeDep Mm (Γp x a b c d) (List Value):=⟨[ι x.kind,ω x.snd,ω x.med,δ a x.asks.length b,δ c x.lost.length d]⟩
instance (x:Msg) (a:Option Addr) (b:Nat) (c:Option Addr) (d:Nat):CoeDep Mm (Γp x a b c d) (Array Value):=⟨((Γp x a b c d):List Value).toArray⟩
instance (x:Msg) (a:Option Addr) (b:Nat) (c:Option Addr) (d:Nat):CoeDep Mm (Γp x a b c d) Value:=⟨θ (Γp x a b c d)⟩
def UR (N:Byt L) (h:20<=L.length): ∃i r,L=Yf i++r/\Wv i/\Byt r:=by
 obtain⟨ad,ai,rfl,U,d⟩:=xv N τ;rw[Ϗ,qK _ _ ζ] at h;obtain⟨ae,aj,rfl,Y,H⟩:=xv d (by simp at h;omega);rw[Ϗ,qK _ _ ζ] at h;obtain⟨af,ak,rfl,aa,I⟩:=xv H (by simp at h;omega);rw[Ϗ,qK _ _ ζ] at h;obtain⟨ag,al,rfl,ab,J⟩:=xv I (by simp at h;omega);rw[Ϗ,qK _ _ ζ] at h;obtain⟨ah,O,rfl,ac,M⟩:=xv J (by simp at h;omega);exact⟨⟨ad,ae,af,ag,ah⟩,O,by unfold Yf;simp only[ϭ],⟨U,Y,aa,ab,ac⟩,M⟩
def U4 (af:Byt L) (h:24<=L.length): ∃b r,L=JK b++r/\QS b/\kD b=ό/\Byt r:=by
 obtain⟨ap,ax,rfl,ak,M⟩:=xv af τ;rw[Ϗ,qK _ _ ζ] at h;obtain⟨J,ay,rfl,ai,H,N⟩:=wU 1 ζ M (by simp at h;omega);rw[Ϗ,qK _ _ ζ] at h;obtain⟨d,az,rfl,aw,I,O⟩:=wU 3 ζ N (by simp at h;omega);rw[Ϗ,qK _ _ ζ] at h;obtain⟨aq,aA,rfl,al,U⟩:=xv O (by simp at h;omega);rw[Ϗ,qK _ _ ζ] at h;obtain⟨ar,aB,rfl,am,Y⟩:=xv U (by simp at h;omega);rw[Ϗ,qK _ _ ζ] at h;obtain⟨au,aC,rfl,an,aa⟩:=xv Y (by simp at h;omega);rw[Ϗ,qK _ _ ζ] at h;obtain⟨av,aj,rfl,ao,ab⟩:=xv aa (by simp at h;omega);have H:J<256:=H;have I:d<16777216:=I;have ah:=KR d 24 ζ ζ;have ag:=Ej d 24 ζ ζ;have ac:two 24=16777216:=by decide
 have ad:two (24-1)=8388608:=by decide
 rw[ad] at ah;rw[ac] at ag;have ae:qy (sgd d 24%4294967296) 3=qy d 3:=by
  rw[<-QH,<-QH d]
  congr 1
  omega
 refine⟨⟨ap,J,sgd d 24,aq,ar,au,av⟩,aj, ?_,⟨ak,⟨ai,by simp only;omega⟩,⟨by simp only;omega,by simp only;omega⟩,al,am,an,ao⟩, ?_,ab⟩
 ·unfold JK;simp only[ϭ,ae];rfl
 ·unfold kD;simp only[B3];omega
def wX: ∀(n:Nat) {L:List Int},Byt L->24* n<=L.length-> ∃l r,l.length=n/\L=flR l++r/\(∀b∈l,QS b/\kD b=ό)/\Byt r
 | 0,L,hb,_=>⟨[],L,rfl,rfl,(λb h=>by cases h),hb⟩
 | n+1,L,hb,h=>by
  obtain⟨b,r,rfl,N,O,M⟩:=U4 hb τ;rw[Ϗ,VW] at h;obtain⟨l,U,H,rfl,I,J⟩:=wX n M τ;refine⟨b::l,U,by rw[ϙ,H],by rw[Xm,ϭ],λc d=> ?_,J⟩;simp at d;rcases d with rfl | d
  ·exact⟨N,O⟩
  ·exact I c d
def WY:Wv Jj:=⟨ζ,ζ,ζ,ζ,ζ⟩
def Zk {c:qQ} (ah:xk c) (h:(qG c).2=0): ∃r,Zx r/\vN r=ό/\Qm r=(c,0):=by
 have aa:jx c=ό:=by
  cases x:jx c with
  | true=>rfl
  | false=>unfold qG at h;rw[ϐ x] at h;cases h
 have ab:c.2.1=200∨c.2.1=201:=by
  by_cases h1:c.2.1=200
  ·exact ϑ h1
  ·by_cases h2:c.2.1=201
   ·exact ϕ h2
   ·unfold qG at h;rw[ώ (by rw[aa];simp),ώ h1,ώ h2] at h;cases h
 have M:=GJ c aa ab;rw[h] at M;have H:c.2.2.1.length=QM c:=by
  by_cases h1:c.2.2.1.length<QM c
  ·rw[ϐ h1] at M;cases M
  ·by_cases h2:QM c<c.2.2.1.length
   ·rw[ώ h1,ϐ h2] at M;cases M
   ·omega
 obtain⟨al,am,I⟩:=(zO c).1 aa;obtain⟨k,t,B,⟨⟩⟩:=c;obtain⟨⟨ai,aj⟩,_,d⟩:=ah;simp only at H al am I ai aj d ab;unfold QM at H;simp only at H;obtain⟨O,ao,rfl,ae,ad⟩:=xv d τ;rw[Ϗ,qK _ _ ζ] at H I;have ag:(4:Int).toNat=4:=rfl;rw[ag] at H I;rcases ab with rfl | rfl
 ·rw[ϐ rfl] at H;obtain⟨i,ap,rfl,an,af⟩:=UR ad τ;rw[Ϗ,VN] at H I;obtain⟨l,ac,ak,rfl,N,_⟩:=wX k.toNat af τ;rw[Ϗ,YG] at H I;have Y:ac=[]:=Ϥ τ;subst Y;have J:vN ⟨ό,O,i,l⟩=ό:=(kM _).2 ⟨(λh=>by cases h),λb d=>(N b d).2,by simp;omega⟩;refine⟨⟨ό,O,i,l⟩,⟨ae,an,λb d=>(N b d).1⟩,J, ?_⟩;rw[kK J];have U:((l.length:Int))=k:=by omega
  simp only[U,A7]
  congr 4
  unfold Za Zu;simp
 ·rw[ώ ζ] at H;obtain⟨l,ac,ak,rfl,N,_⟩:=wX k.toNat ad τ;rw[Ϗ,YG] at H I;have Y:ac=[]:=Ϥ τ;subst Y;have J:vN ⟨ύ,O,Jj,l⟩=ό:=(kM _).2 ⟨λh=>rfl,λb d=>(N b d).2,by simp;omega⟩;refine⟨⟨ύ,O,Jj,l⟩,⟨ae,WY,λb d=>(N b d).1⟩,J, ?_⟩;rw[kK J];have U:((l.length:Int))=k:=by omega
  simp only[U];unfold Za Zu;simp
def YP {c:qQ} {r:Rep} (M:xk c) (h:qG c=(r,0)):Qm r=(c,0)/\Zx r/\vN r=ό:=by
 obtain⟨N,d,H,I⟩:=Zk M (by rw[h]);have J:=YW d H;rw[I,h] at J;obtain rfl:r=N:=by injection J
 exact⟨I,d,H⟩
structure Itm where
 kind:Int
 rep:Rep
 msg:Msg
 oth:qQ
instance:DecidableEq Itm:=λa b=>decidable_of_iff (a.kind=b.kind/\a.rep=b.rep/\a.msg=b.msg/\(a.oth.1=b.oth.1/\a.oth.2.1=b.oth.2.1/\a.oth.2.2.1=b.oth.2.2.1)) (by
 obtain⟨ka,ra,ma,o1,o2,o3,⟨⟩⟩:=a;obtain⟨kb,rb,mb,p1,p2,p3,⟨⟩⟩:=b
 simp)
structure Wu (x:Itm):Prop where
 rep:Zx x.rep
 msg:Zz x.msg
 oth:xk x.oth
def Gj:qQ:=(0,0,[],())
def wL:Itm:=⟨0,Qh,JI,Gj⟩
def vg:List Int->Int
 | []=>0
 | e::l=>if e=0 then vg l else e
def qv (c:qQ):Itm×Int:=
 if c.2.1=200∨c.2.1=201 then (⟨1,(qG c).1,JI,Gj⟩,(qG c).2)
 else if (qJ c).2=5 then (⟨3,Qh,JI,c⟩,0) else (⟨2,Qh,(qJ c).1,Gj⟩,(qJ c).2)
def zx (b:List Int):List Itm×Int:=
 if (jI b).2=0 then (if vg ((jI b).1.map λc=>(qv c).2)=0 then ((jI b).1.map λc=>(qv c).1,0) else ([],vg ((jI b).1.map λc=>(qv c).2))) else ([],(jI b).2)
def WJ:Zx Qh:=⟨ζ,by constructor<;>decide,(λb h=>by cases h)⟩
def WQ:xk Gj:=⟨ζ,ζ,Byt.of_all (l:=[]) rfl⟩
def Γo (x:Itm) (a:Option Addr) (b:Nat) (c:Option Addr) (d:Nat) (e:Option Addr) (f:Nat) (g:Option Addr) (h:Nat):Mm:=.o
instance (x:Itm) (a:Option Addr) (b:Nat) (c:Option Addr) (d:Nat) (e:Option Addr) (f:Nat) (g:Option Addr) (h:Nat):CoeDep Mm (Γo x a b c d e f g h) (List Value):=⟨[ι x.kind,μ x.rep.snd,ω x.rep.src,ω x.rep.inf.sec,ω x.rep.inf.frac,ω x.rep.inf.stamp,ω x.rep.inf.pkts,ω x.rep.inf.octs,δ a x.rep.bl.length b,ι x.msg.kind,ω x.msg.snd,ω x.msg.med,δ c x.msg.asks.length d,δ e x.msg.lost.length f,υ x.oth.1,υ x.oth.2.1,δ g x.oth.2.2.1.length h]⟩
instance (x:Itm) (a:Option Addr) (b:Nat) (c:Option Addr) (d:Nat) (e:Option Addr) (f:Nat) (g:Option Addr) (h:Nat):CoeDep Mm (Γo x a b c d e f g h) (Array Value):=⟨((Γo x a b c d e f g h):List Value).toArray⟩
instance (x:Itm) (a:Option Addr) (b:Nat) (c:Option Addr) (d:Nat) (e:Option Addr) (f:Nat) (g:Option Addr) (h:Nat):CoeDep Mm (Γo x a b c d e f g h) Value:=⟨θ (Γo x a b c d e f g h)⟩
def Vf:qL (Int×Int):=λ_ cs a=>cs=[.int .u32 a.1,.int .u8 a.2]/\U32 a.1/\U8 a.2
def Cb:QQ Vf:=λ_ _ _ _ _ h=>h
def Au (q:Int):IntKind.i16.wrap q=(q+32768)%65536-32768:=by
 simp only[IntKind.wrap,IntKind.bits,IntKind.signed];simp;split<;>omega
def Ct (a b:Int):wrap64 (IntKind.i16.wrap (IntKind.u16.wrap (b-a)))=ahd a b:=by
 rw[Au,IntKind.wrap_u16];unfold ahd wrap64;omega
def Dl (a b:Int) (w:World) (d:U16 a) (H:U16 b):
  Calls prog 282 #[φ a,φ b] w λe w'=>e= .returned (ι (ahd a b))/\w=w':=by
 obtain⟨a0,I⟩:=d;obtain⟨J,M⟩:=H
 go_enter func282,ntmps282
 go_wp2;go_ret;refine⟨xV ?_,rfl⟩;exact Ct a b
def Yd (a b:Int) (w:World) (d:U16 a) (H:U16 b):
  Calls prog 244 #[φ a,φ b] w λe w'=>e= .returned (ι (ahd a b))/\w=w':=by
 go_enter func244,ntmps244
 go_wp2_with (go_at_call 282;(go_call Dl a b _ d H as e w1 ⟨rfl,rfl⟩))
 go_ret;exact⟨rfl,rfl⟩
def Dx (a b:Int) (w:World) (d:U16 a) (H:U16 b):
  Calls prog 329 #[φ a,φ b] w λe w'=>e= .returned (μ (decide (0<ahd a b)))/\w=w':=by
 go_enter func329,ntmps329
 go_wp2_with (go_at_call 244;(go_call Yd a b _ d H as e w1 ⟨rfl,rfl⟩))
 go_ret;exact⟨rfl,rfl⟩
def Xu (k:Int) (w:World):
  Calls prog 318 #[ι k] w λe w'=>e= .returned (.tuple #[υ (Zv k).1,υ (Zv k).2])/\w=w':=by
 by_cases h1:k=1
 ·subst h1
  go_enter func318,ntmps318
  go_wp2
  go_ret2
  exact⟨rfl,rfl⟩
 by_cases h2:k=2
 ·subst h2
  go_enter func318,ntmps318
  go_wp2
  go_ret2
  exact⟨rfl,rfl⟩
 have d:Zv k=(205,1):=by unfold Zv;rw[ώ h1,ώ h2]
 have H:=κ d;have I:(k==1)=ύ:=by simpa using h1
 have J:(k==2)=ύ:=by simpa using h2
 clear d h1 h2
 go_enter func318,ntmps318
 go_wp2
 go_ret2
 exact⟨by rw[H.o];rfl,rfl⟩
end Go.Proofs.YtlmllmonabafjaaGreatDoor
