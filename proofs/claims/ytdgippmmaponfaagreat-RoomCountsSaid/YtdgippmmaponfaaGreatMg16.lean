/- Contracts of the functions that the law reaches, and plain laws; no conditions but those written at each. -/
import Derived.Test.YtdgippmmaponfaaGreatMg15
namespace Go.Proofs.YtdgippmmaponfaaGreat
open Go.Value renaming bool->μ,slice->δ,pointer->π,agg->θ
open Go.IntKind renaming i64->ι,u8->υ,u16->φ,u32->ω,i32->χ,u64->ψ
open _root_.Go.Proofs.Tryz
set_option linter.unusedSimpArgs false
set_option maxHeartbeats 8000000
set_option linter.unusedVariables false
open Go.RowKit
set_option maxRecDepth 100000
def RO:qL Og:=λ_ cs o=>cs=[.int .i64 o.1,.int .i64 o.2]
theorem Ph {i j:Nat} (hi:i<3) (d:j<3):orgs.take (3* i+(j+1))=orgs.take (3* i+j)++[((i:Int),(j:Int))]:=by
 have hi:i=0∨i=1∨i=2:=by omega
 have d:j=0∨j=1∨j=2:=by omega
 rcases hi with rfl | rfl | rfl<;>rcases d with rfl | rfl | rfl<;>rfl
theorem By (n:Nat) (p:Og->Bool):((orgs.take n).filter p).length<=9:=Nat.le_trans (List.length_filter_le _ _) (by rw[List.length_take];show min n 9<=9;omega)
def Yp (SA:List (Og×Nat)):List Og:=orgs.filter λo=>(qh SA o).isSome
theorem KC {w:World} {R ac:Nat} {SA:List (Og×Nat)} (ah:R<w.heap.size) (ai:w.cell? ⟨R,13,none⟩=some (.map (some ac))) (ak:jk w ac kO gj SA):
  Calls prog 42 #[γ R] w λe w'=> ∃v,e= .returned v/\je 2 RO (λ_=>False) w' w.heap.size 50 v (Yp SA)/\qa w w':=by
 obtain⟨aL,hi,aG,aH,aI⟩:=info_parts (P:=prog) (e:=50) (z:= θ #[ι 0,ι 0]) (size:=2) (bytes:=16) ξ;have aw:=κ ak;have aq:=κ ai;have ax:=κ ah;clear ak ai ah;obtain⟨p,am⟩: ∃p:Og->Bool,Hid (p=λo=>(qh SA o).isSome):=⟨_,κ rfl⟩;have e0:Yp SA=(orgs.take 9).filter p:=by rw[am.o];rfl
 rw[e0];have av:=κ (λn=>By n p);clear e0
 go_enter func42,ntmps42
 go_wp2
 go_loopw [3,9] (λu H wr=> ∃i:Nat,i<=3/\H= ι i/\(∃M J I,u= δ M J I)/\je 2 RO (λ_=>False) wr w.heap.size 50 u ((orgs.take (3* i)).filter p)/\qa w wr) (λ_ H _=>3-(intOf H).toNat)
 case atStart=>exact⟨0,τ,rfl,⟨_,_,_,rfl⟩,je.nil _ _ _ _ _ _,qa.refl _⟩
 case round=>
  obtain⟨i,aQ,rfl,⟨M,J,I,rfl⟩,U,O⟩:=hrel;have G:=κ U;have d:=κ O;clear U O;by_cases hlt:i<3
  ·have aD:(i:Int)<3:=by omega
   obtain⟨ap,rfl⟩: ∃ap:World,ap=wr:=⟨_,rfl⟩;go_wp2
   go_loopw [3,12] (λu H wr=> ∃j:Nat,j<=3/\H= ι j/\(∃M J I,u= δ M J I)/\je 2 RO (λ_=>False) wr w.heap.size 50 u ((orgs.take (3* i+j)).filter p)/\qa w wr) (λ_ H _=>3-(intOf H).toNat)
   case atStart=>exact⟨0,τ,rfl,⟨_,_,_,rfl⟩,G.o,d.o⟩
   case round=>
    clear G d;obtain⟨j,aR,rfl,⟨M,J,I,rfl⟩,U,O⟩:=hrel;have G:=κ U;have d:=κ O;clear U O;by_cases hltj:j<3
    ·have aE:(j:Int)<3:=by omega
     have ao:=Ph hlt hltj;have ar:Hid (∀b,(δ M J I).ownBlock=some b->w.heap.size<=b):=κ (λb h=>G.o.ge h);have au:=κ (av.o (3* i+j));obtain⟨W1,aa⟩:=ν (wr.alloc (.cells #[ι (i:Int),ι (j:Int)] 50));have N:Hid (qa wr W1):=κ (by rw[<-aa];exact qa.alloc _ _);have ae:Hid (W1.heap[wr.heap.size]? =some (.cells #[ι (i:Int),ι (j:Int)] 50 (0,0))):=κ (by rw[<-aa];exact qj wr _);have aB:W1.cell? ⟨R,13,none⟩=some (.map (some ac)):=by rw[(d.o.trans N.o).cells _ _ ax.o];exact aq.o
     have q: ∀n,_:=λn=>ya (aw.o.more ((d.o.trans N.o).dr n)) ((i:Int),(j:Int)) true
     simp only[if_true] at q;have an:p ((i:Int),(j:Int))=(qh SA ((i:Int),(j:Int))).isSome:=by rw[am.o]
     have ag:=κ ao;generalize qh SA ((i:Int),(j:Int))=g at *;clear ao;have aN:=β0 ae.o;have aO:=β1 ae.o;have af:=κ an;clear an
     go_upto_region 9 with fail
     (try rw[aa])
     clear aa;refine wp_region_quiet_lit ξ ξ ?_
     repeat (go_big_quiet_step (fail))
     refine wpQuiet_nil ?_;intro _ aF;obtain⟨nq,rfl⟩:=aF;have Y:Hid (qa w (W1.drewN nq)):=κ ((d.o.trans N.o).dr _);have az:=κ ((G.o.on N.o).on ((qa.drewN W1 nq).al (.cells #[ι (i:Int),ι (j:Int)] 50)));clear q aB;cases g with
     | none=>
      have ab:Hid ((orgs.take (3* i+(j+1))).filter p=(orgs.take (3* i+j)).filter p):=κ (by rw[ag.o,List.filter_append,List.filter_cons,if_neg (by rw[af.o];simp)];simp);have ay:=κ ((G.o.on N.o).on (qa.drewN W1 nq));go_wp2;go_roundw
      case rel=>exact⟨j+1,τ,by go_num,⟨_,_,_,rfl⟩,by rw[ab.o];exact ay.o,Y.o⟩
      case measure=>simp[intOf];omega
     | some g=>
      have ab:Hid ((orgs.take (3* i+(j+1))).filter p=(orgs.take (3* i+j)).filter p++[((i:Int),(j:Int))]):=κ (by rw[ag.o,List.filter_append,List.filter_cons,if_pos (by rw[af.o];rfl)];simp);have aS:=au.o
      go_wp2_with (at_builtin;(refine jN (R:=RO) (D:=λ_=>False) _ rfl (.tmp 28) (.tmp 30) 119 rfl w.heap.size 50 aL (θ #[ι 0,ι 0]) 2 16 underlying119 hi aG aH aI rfl ζ _ ((orgs.take (3* i+j)).filter p) rfl az.o W1.heap.size [ι (i:Int),ι (j:Int)] ((i:Int),(j:Int)) rfl rfl (zS η) (by simp[Value.oneCell']) (λw' _=>rfl) (λb h=>h.elim) ζ τ (Y.o.al _).size ?_;intro v' w8 ad aj aC;have aM:Hid (qa w w8):=κ (Below.grown (Y.o.al _) aj (Y.o.al _).size ar.o);obtain⟨aU,aT,aP,rfl,aJ,aK⟩:=ad.shape;have aA:=κ ad;clear ad aj aC aJ aK))
      go_roundw
      case rel=>exact⟨j+1,τ,by go_num,⟨_,_,_,rfl⟩,by rw[ab.o];exact aA.o,aM.o⟩
      case measure=>simp[intOf];omega
    ·obtain rfl:j=3:=by omega
     have aE: ¬((3:Nat):Int)<3:=by omega
     go_wp2;go_roundw
     case rel=>exact⟨i+1,τ,by go_num,⟨_,_,_,rfl⟩,by rw[Nat.mul_add];exact G.o,d.o⟩
     case measure=>simp[intOf];omega
  ·obtain rfl:i=3:=by omega
   have aD: ¬((3:Nat):Int)<3:=by omega
   go_wp2;go_ret;exact⟨_,rfl,G.o,d.o⟩
theorem FS (n:Int) (w:World):Calls prog 216 #[ι n] w λe w'=>e= .returned (φ (n%65536))/\w=w':=by
 go_enter func216,ntmps216
 go_wp2;go_ret;exact⟨rfl,rfl⟩
theorem Wa (n:Int) (d:U16 n) (w:World):Calls prog 177 #[φ n] w λe w'=>e= .returned (ι (65536+n))/\w=w':=by
 obtain⟨G,H⟩:=d
 go_enter func177,ntmps177
 go_wp2;go_ret;exact⟨rfl,rfl⟩
theorem IZ (a b:Int): -32768<=ahd a b/\ahd a b<=32767:=by unfold ahd;omega
theorem Wm (d n:Int) (J:xz d) (H:U16 n) (w:World):Calls prog 178 #[ι d,φ n] w λe w'=>e= .returned (ι (KH d n))/\w=w':=by
 obtain⟨M,N⟩:=J;have O:=IZ (d%65536) n;have G:U16 (d%65536):=by unfold U16;omega
 unfold KH;have I:=κ (λw=>Yd (d%65536) n w G H);clear G H;generalize ahd (d%65536) n=a at *
 go_enter func178,ntmps178
 go_wp2_with (first | (go_at_call 216;(go_call FS d _ as e w1 ⟨rfl,rfl⟩)) | (go_at_call 215;(go_call I.o _ as e w2 ⟨rfl,rfl⟩)))
 go_ret;exact⟨rfl,rfl⟩
theorem vK (c t:Int) (w:World):Calls prog 122 #[θ #[ι c,ι t]] w λe w'=>e= .returned (μ (!decide (c=t)))/\qa w w':=by
 go_enter func122,ntmps122
 go_wp2;go_ret;exact⟨by congr 1,qa.alloc _ _⟩
theorem Qf (sp d:Int) (w:World):Calls prog 37 #[θ #[ι sp,ι d]] w λe w'=>e= .returned (μ (decide (1<=sp/\sp<=d/\d<=1000)))/\qa w w':=by
 have e:decide (1<=sp/\sp<=d/\d<=1000)=(decide (1<=sp)&&(decide (sp<=d)&&decide (d<=1000))):=by by_cases h1:1<=sp<;>by_cases h2:sp<=d<;>by_cases h3:d<=1000<;>simp[h1,h2,h3]
 rw[e];clear e;by_cases h1:1<=sp
 ·by_cases h2:sp<=d
  ·go_enter func37,ntmps37
   go_wp2;go_ret;exact⟨by simp[h1,h2],qa.alloc _ _⟩
  ·go_enter func37,ntmps37
   go_wp2;go_ret;exact⟨by simp[h1];omega,qa.alloc _ _⟩
 ·go_enter func37,ntmps37
  go_wp2;go_ret;exact⟨by simp;omega,qa.alloc _ _⟩
theorem FY (sp d G:Int) (ag:1<=sp) (ah:sp<=d) (ai:d<=1000) (aj:0<=G) (ak:G<=1000000) (w:World):
  Calls prog 120 #[θ #[ι sp,ι d],ι G] w λe w'=>e= .returned (ι (Yg sp d G))/\qa w w':=by
 go_enter func120,ntmps120
 go_wp2
 go_step3
 go_wp2
 go_step3
 go_wp2
 go_loopw [5,6] (λg N wr=> ∃(k:Nat) (H:Int),N= ι (k+1)/\g= ι H/\0<=H/\H<=2000/\(k:Int)<=1000000/\Zc d ((G-1).toNat-k) H=Zc d (G-1).toNat sp/\(k=0∨(k:Int)<=G-1)/\wr=w.alloc (.cells #[ι sp,ι d] 23)) (λ_ N _=>(G-1).toNat+1-(intOf N).toNat)
 case atStart=>exact⟨0,sp,rfl,rfl,τ,τ,τ,rfl,Or.inl rfl,rfl⟩
 case round=>
  obtain⟨k,H,rfl,rfl,ae,af,al,Y,aa,rfl⟩:=hrel;have ab:=κ (qj w (.cells #[ι sp,ι d] 23));have M:=κ Y;have ac:=κ aa;clear Y aa;have ad:=β1 ab.o;by_cases hlt:(k:Int)+1<G
  ·obtain⟨n,J⟩: ∃n,(G-1).toNat-k=n+1:=⟨(G-1).toNat-k-1,τ⟩;by_cases hb1:H<1
   ·have I:Hid (Yg sp d G=if H<=d then H else d):=κ (by unfold Yg;rw[<-M.o,J];unfold Zc;rw[if_pos (Or.inl hb1)]);clear J;go_wp2
    (try rw[Exit.noGoto_ret])
    go_ret;exact⟨by rw[I.o];first | rfl | (congr 2;try omega) | skip,qa.alloc _ _⟩
   ·by_cases hb2:d<=H
    ·have I:Hid (Yg sp d G=if H<=d then H else d):=κ (by unfold Yg;rw[<-M.o,J];unfold Zc;rw[if_pos (Or.inr hb2)]);clear J;go_wp2
     (try rw[Exit.noGoto_ret])
     go_ret;exact⟨by rw[I.o];first | rfl | (congr 2;try omega) | skip,qa.alloc _ _⟩
    ·have U:Zc d n (2* H)=Zc d (G-1).toNat sp:=by rw[<-M.o,J];conv=>rhs;unfold Zc;rw[if_neg τ]
     have I:=κ U;have O:=κ J;clear U J;go_wp2;go_roundw
     case rel=>exact⟨k+1,H* 2,by go_num,rfl,τ,τ,τ,by rw[show (G-1).toNat-(k+1)=n by have:=O.o;omega,Int.mul_comm];exact I.o,Or.inr τ,trivial⟩
     case measure=>have:=O.o;simp[intOf];omega
  ·have I:Hid (Yg sp d G=if H<=d then H else d):=κ (by unfold Yg;rw[<-M.o,show (G-1).toNat-k=0 by have:=ac.o;omega];rfl);go_wp2
   (try rw[Exit.noGoto_ret])
   go_ret;exact⟨by rw[I.o];first | rfl | (congr 2;try omega) | skip,qa.alloc _ _⟩
theorem Cy (sp G:Int) (a:Gr) (d:Bool) (H:Int) (aU:1<=sp) (aV:sp<=G) (aW:G<=1000) (aJ:0<=a.tries) (aK:a.tries<=1000000) (aZ:xz a.last) (ba:xz H) (w:World):
  Calls prog 78 #[θ #[ι sp,ι G],θ #[μ a.wanted,a.any,ι a.last,ι a.tries],d,ι H] w λe w'=>
   e= .returned (.tuple #[θ #[μ (vU sp G a d H).1.wanted,μ (vU sp G a d H).1.any,ι (vU sp G a d H).1.last,ι (vU sp G a d H).1.tries],μ (vU sp G a d H).2])/\qa w w':=by
 obtain⟨N,I,al,ag⟩:=a;obtain⟨bc,bd⟩:=aZ;obtain⟨bq,br⟩:=ba;simp only at aJ aK bc bd ⊢;obtain⟨T,an⟩:=ν (uq ⟨N,I,al,ag⟩ d);have aX:0<=T/\T<=1000000:=by rw[<-an];unfold uq;split<;>first | exact⟨aJ,aK⟩ | exact⟨τ,τ⟩
 obtain⟨t0,t1⟩:=aX;have au:=κ an;obtain⟨c,ax⟩:=ν (Hc sp G ⟨N,I,al,ag⟩ d H);have aN:=κ ax;obtain⟨y,aA⟩:=ν (vU sp G ⟨N,I,al,ag⟩ d H);have aF:Hid (y=if c then (⟨d,I,al,T⟩,false) else (⟨d,true,H,T+1⟩,true)):=κ (by rw[<-aA,<-ax,<-an];rfl);obtain⟨q,aI⟩:=ν ((!d|| !N));have ar:=κ aI;obtain⟨g,ay⟩:=ν (Yg sp G T);have aP:=κ ay;have aq:=κ (λw=>FY sp G T aU aV aW t0 t1 w);rw[ay] at aq;rw[aA];clear an ax aI aA ay
 go_enter func78,ntmps78
 go_upto_region 1 with fail
 obtain⟨ah,ae⟩:=ν ((((w.alloc (.cells #[ι sp,ι G] 23)).alloc (.cells #[μ N,I,ι al,ι ag] 122)).alloc (.cells #[μ false,false,ι 0,ι 0] 122)));have J:Hid (ah.heap[w.heap.size+1]? =some (.cells #[μ N,I,ι al,ι ag] 122 (0,0))):=κ (by rw[<-ae];exact qs (qC η) _);have ab:Hid (ah.heap[w.heap.size]? =some (.cells #[ι sp,ι G] 23 (0,0))):=κ (by rw[<-ae];exact qs (qs (qj w _) _) _);have ac:Hid (ah.heap[w.heap.size+1+1]? =some (.cells #[μ false,false,ι 0,ι 0] 122 (0,0))):=κ (by rw[<-ae];exact qC η);have ad:Hid (qa w ah):=κ (by rw[<-ae];exact((qa.alloc _ _).al _).al _);rw[ae];clear ae;have ai:w.heap.size<=w.heap.size+1:=by omega
 have O:w.heap.size<=w.heap.size+1+1:=by omega
 have aM:w.heap.size≠w.heap.size+1:=by omega
 have aj:w.heap.size+1+1≠w.heap.size+1:=by omega
 have am:=β0 J.o
 go_cut [16] from 10 to 16 (λv U=>v= μ q/\U=ah)
 case first=>
  cases d<;>cases N<;>(go_wp2;go_meet;exact⟨by rw[<-ar.o];rfl,rfl⟩)
 case rest=>
 obtain⟨rfl,aR⟩:=hcut;subst aR
 go_upto_if 16 with fail
 go_cut [] from 17 to 17 (λU=>U.heap[w.heap.size+1]? =some (.cells #[μ N,I,ι al,ι T] 122 (0,0))/\U.heap[w.heap.size]? =some (.cells #[ι sp,ι G] 23 (0,0))/\U.heap[w.heap.size+1+1]? =some (.cells #[μ false,false,ι 0,ι 0] 122 (0,0))/\qa w U)
 case first=>
  have aT:=qd J.o 3;have c3:=β3 J.o;cases q with
  | true=>
   have az:Hid (0=T):=κ (by rw[<-au.o];unfold uq;rw[if_neg (by have:=ar.o;cases d<;>cases N<;>simp_all)]);go_wp2;go_meet;exact⟨qB (qp J.o 3 _) (by rw[<-az.o];rfl),qo ab.o _ _ aM,qo ac.o _ _ aj,ad.o.st (p:=⟨w.heap.size+1,3,none⟩) ai _⟩
  | false=>
   have az:Hid (ag=T):=κ (by rw[<-au.o];unfold uq;rw[if_pos (by have:=ar.o;cases d<;>cases N<;>simp_all)]);go_wp2;go_meet;exact⟨by rw[<-az.o];exact J.o,ab.o,ac.o,ad.o⟩
 case rest=>
 obtain⟨aw,aG,aH,aL⟩:=hcut;have aS:=qd aw 0;have ap:=κ aw;have aB:=κ aG;have aC:=κ aH;have aE:=κ aL;clear J ab ac ad am aw aG aH aL;have am:=β0 ap.o
 go_upto_region 4 with fail
 obtain⟨aa,af⟩:=ν (wc.setCell ⟨w.heap.size+1,0,none⟩ (μ d));have J:Hid (aa.heap[w.heap.size+1]? =some (.cells #[μ d,I,ι al,ι T] 122 (0,0))):=κ (by rw[<-af];exact qB (qp ap.o 0 _) rfl);have ab:Hid (aa.heap[w.heap.size]? =some (.cells #[ι sp,ι G] 23 (0,0))):=κ (by rw[<-af];exact qo aB.o _ _ aM);have ac:Hid (aa.heap[w.heap.size+1+1]? =some (.cells #[μ false,false,ι 0,ι 0] 122 (0,0))):=κ (by rw[<-af];exact qo aC.o _ _ aj);have ad:Hid (qa w aa):=κ (by rw[<-af];exact aE.o.st (p:=⟨w.heap.size+1,0,none⟩) ai _);rw[af];clear af ap aB aC aE am aS
 go_cut [36] from 20 to 36 (λv U=>v= μ c/\qa aa U)
 case first=>
  have ak:=λ(x:qt aa)=>qc x.h J.o
  have bf:=λx=>β1 (ak x);have bg:=λx=>β2 (ak x);have bh:=λx=>β3 (ak x);clear ak
  have av:=λ(x:qt aa)=>qc x.h ab.o
  have bi:=λx=>β0 (av x);have bj:=λx=>β1 (av x);clear av
  obtain⟨aQ,aY⟩:=ν (decide (H-al<g));have aO:Hid ((!d||(I&&aQ))=c):=κ (by rw[<-aN.o,<-aY,<-aP.o,<-au.o];rfl)
  cases d<;>cases I<;>(
   refine qD _ (qa.refl _) ξ ξ ?_
   repeat (go_big_quiet_step ((go_at_call 120;exact j6 (aq.o _))))
   refine wpQuiet_nil ?_;intro _ bb;obtain⟨be,rfl⟩:=bb;go_wp2;go_meet
   exact⟨by rw[<-aO.o];rfl,be.h⟩)
 case rest=>
 obtain⟨rfl,ao⟩:=hcut;have Y:=κ (qc ao J.o);have M:=κ (qc ao ac.o);have aD:=κ (ad.o.trans ao);clear J ab ac ad ao aq;have am:=β0 Y.o;have c1:=β1 Y.o;have bk:=qd Y.o 1;have c2:=β2 Y.o;have bl:=qd Y.o 2;have c3:=β3 Y.o;have aT:=qd Y.o 3;have z0:=β0 M.o;have bm:=qd M.o 0;have bs:=β1 M.o;have bn:=qd M.o 1;have bt:=β2 M.o;have bo:=qd M.o 2;have z3:=β3 M.o;have bp:=qd M.o 3;cases c with
 | true=>
  obtain rfl:y=(⟨d,I,al,T⟩,false):=aF.o;go_wp2;refine bodyPost_ret (v:= .tuple #[θ #[μ d,I,ι al,ι T],false]) (yo results78 _ _ (w.heap.size+1+1) 122 #[μ d,I,ι al,ι T] _ _ rfl rfl (qB (qp (qp (qp (qp M.o 0 _) 1 _) 2 _) 3 _) rfl) underlying122 rfl ξ) rfl ?_;exact⟨rfl,((((aD.o.st (p:=⟨w.heap.size+1+1,0,none⟩) O _).st (p:=⟨w.heap.size+1+1,1,none⟩) O _).st (p:=⟨w.heap.size+1+1,2,none⟩) O _).st (p:=⟨w.heap.size+1+1,3,none⟩) O _)⟩
 | false=>
  obtain rfl:y=(⟨d,true,H,T+1⟩,true):=aF.o;go_wp2;refine bodyPost_ret (v:= .tuple #[θ #[μ d,true,ι H,ι (T+1)],true]) (yo results78 _ _ (w.heap.size+1+1) 122 #[μ d,true,ι H,ι (T+1)] _ _ rfl rfl (qB (qp (qp (qp (qp (qo (qo (qo M.o ⟨w.heap.size+1,1,none⟩ _ aj) ⟨w.heap.size+1,2,none⟩ _ aj) ⟨w.heap.size+1,3,none⟩ _ aj) 0 _) 1 _) 2 _) 3 _) rfl) underlying122 rfl ξ) rfl ?_;exact⟨rfl,(((((((aD.o.st (p:=⟨w.heap.size+1,1,none⟩) ai _).st (p:=⟨w.heap.size+1,2,none⟩) ai _).st (p:=⟨w.heap.size+1,3,none⟩) ai _).st (p:=⟨w.heap.size+1+1,0,none⟩) O _).st (p:=⟨w.heap.size+1+1,1,none⟩) O _).st (p:=⟨w.heap.size+1+1,2,none⟩) O _).st (p:=⟨w.heap.size+1+1,3,none⟩) O _)⟩
theorem KJ.on {d:Nat->Prop} {w w':World} {p G:Nat} {v:Value} {t:zu} (h:KJ d w p G v t) (m:qa w w'):KJ d w' p G v t:=
 ⟨qc m h.blk,h.buf.on m,h.ok,λb H=>Nat.lt_of_lt_of_le (h.sub b H) m.size,h.np,h.nb,h.ne,h.nv⟩
section
variable {T:Nat->Tg} {w0 w w':World} {k:RmK} {vp vr:Value} {s:RmS} {F:List Nat}
theorem RmX.strAt (h:RmX T w0 w k vp vr s F) {o:Og} {t:zu} (I:qh s.strs o=some t): ∃p d v,qh k.SA o=some p/\KJ (λb=>T b= .str o) w p d v t:=by
 obtain⟨J,G⟩:=h.all (.str o);rw[I] at G;obtain⟨p,H⟩:=Option.isSome_iff_exists.1 G;obtain⟨d,v,x⟩:=J p t H I;exact⟨p,d,v,H,x⟩
theorem RmX.laneAt (h:RmX T w0 w k vp vr s F) {x:Int} {l:LnS} (G:qh s.lanes x=some l): ∃p,qh k.LA x=some p/\zw (λb=>T b= .lane x) w p l:=by
 obtain⟨I,d⟩:=h.all (.lane x);rw[G] at d;obtain⟨p,H⟩:=Option.isSome_iff_exists.1 d;exact⟨p,H,I p l H G⟩
theorem RmX.laneNo (h:RmX T w0 w k vp vr s F) {x:Int} (G:qh s.lanes x=none):qh k.LA x=none:=by
 obtain⟨H,d⟩:=h.all (.lane x);rw[G] at d;cases hp:qh k.LA x with
 | none=>rfl
 | some p=>rw[hp] at d;cases d
theorem RmX.origins (h:RmX T w0 w k vp vr s F):Yp k.SA=s.origins:=by
 unfold Yp RmS.origins
 congr 1
 funext o
 exact(h.all (.str o)).2
theorem RmX.blk (h:RmX T w0 w k vp vr s F):w.heap[k.R]? =some (.cells (zH k vp vr s) 88 (0,0)):=(h.all .room).2
theorem RmX.tab (h:RmX T w0 w k vp vr s F):jq w k.tb k.ta k.tc k.td s.tab:=by
 obtain⟨_,_,_,_,x⟩:=h.all .table;exact x
theorem RmX.bok (h:RmX T w0 w k vp vr s F):jy w k.B k.b s.book:=by
 obtain⟨_,_,x⟩:=h.all .book;exact x
theorem RmX.que (h:RmX T w0 w k vp vr s F):RgR 1 188 34 RBy (λb=>T b≠ .data) w k.RQ k.AQ s.cfg.room.toNat s.queue:=by
 obtain⟨_,_,x⟩:=h.all .queue;exact x
theorem RmX.lnm (h:RmX T w0 w k vp vr s F):jk w k.ML (Value.int .i64) gj k.LA:=(h.all .lns).2
theorem RmX.stm (h:RmX T w0 w k vp vr s F):jk w k.MS kO gj k.SA:=(h.all .sts).2
theorem RmX.retm (h:RmX T w0 w k vp vr s F):jk w k.M1 kO μ s.ret:=(h.all .ret).2
theorem RmX.lt (h:RmX T w0 w k vp vr s F):k.R<w.heap.size:=qn h.blk
theorem RmX.orgsRow (h:RmX T w0 w k vp vr s F):Calls prog 42 #[γ k.R] w λe w'=> ∃v,e= .returned v/\je 2 RO (λ_=>False) w' w.heap.size 50 v s.origins/\qa w w':=by
 rw[<-h.origins];exact KC h.lt (qb h.blk 13 rfl) (h.all .sts).2
theorem yB {s:RmS} {o:Og} (h:o∈s.origins): ∃t,qh s.strs o=some t:=by
 unfold RmS.origins at h;exact Option.isSome_iff_exists.1 (List.mem_filter.1 h).2
theorem KT {w:World} {v:Value} {L:List Og} {base:Nat} (h:je 2 RO (λ_=>False) w base 50 v L): ∃oa cap,v= δ oa L.length cap/\L.length<=maxLen/\ ∀i (hi:i<L.length),∃b,oa=some ⟨b,0,none⟩/\base<=b/\b<w.heap.size/\w.cell? ⟨b,i* 2,none⟩=some (ι L[i].1)/\w.cell? ⟨b,i* 2+1,none⟩=some (ι L[i].2):=by
 obtain⟨⟨xs,d,r⟩,_⟩:=h;rcases id d.2 with ⟨rfl,H⟩ | ⟨b,cap,cur,rfl,I,J,M,N,_⟩
 ·exact⟨none,0,by rw[H],by rw[H];exact Nat.zero_le _,λi hi=>by omega⟩
 ·refine⟨_,cap,rfl,τ,λi hi=>⟨b,rfl,I,lt_of_block J, ?_, ?_⟩⟩
  ·have e:(xs.drop (i* 2)).take 2=[ι L[i].1,ι L[i].2]:=(r i hi).read;have e0:=congrArg (λl:List Value=>l[0]?) e;simp at e0;rw[d.cellAt _ τ];exact e0
  ·have e:(xs.drop (i* 2)).take 2=[ι L[i].1,ι L[i].2]:=(r i hi).read;have G:=congrArg (λl:List Value=>l[1]?) e;simp at G;rw[d.cellAt _ τ];exact G
def RmS.readyO (s:RmS):Og:=s.ready.getD (0,0)
theorem ZW {α:Type} (p:α->Bool): ∀(l:List α) (j:Nat) (hj:j<l.length),(∀i (hi:i<l.length),i<j->p l[i]=false)->p l[j]=true->l.find? p=some l[j]
 | [],j,hj,_,_=>by simp at hj
 | a::l,0,_,_,h=>by simp at h;simp[h]
 | a::l,j+1,hj,h1,h2=>by
  have d:=h1 0 η τ;simp at d;simp only[List.find?_cons,d];exact ZW p l j (by simpa using hj) (λi hi G=>by have:=h1 (i+1) (by simpa using hi) τ;simpa using this) (by simpa using h2)
theorem PJ {α:Type} (p:α->Bool) (l:List α) (h: ∀i (hi:i<l.length),p l[i]=false):l.find? p=none:=by
 rw[List.find?_eq_none];intro x d;obtain⟨i,hi,rfl⟩:=List.mem_iff_getElem.1 d;simp[h i hi]
theorem Al (h:RmX T w0 w k vp vr s F) (av:xz s.clock):
  Calls prog 63 #[γ k.R] w λe w'=>e= .returned (.tuple #[θ #[ι s.readyO.1,ι s.readyO.2],s.ready.isSome])/\qa w w':=by
 have N:=κ h;have aE:=κ av;clear h av
 go_enter func63,ntmps63
 go_wp2_with (go_at_call 42;(go_call (N.o.on (qa.alloc w (.cells #[ι 0,ι 0] 50))).orgsRow as e w1 ⟨v,rfl,aB,ah⟩;obtain⟨aZ,cap,rfl,aO,aA⟩:=KT aB;have aG:=κ aA;have an:Hid (qa w w1):=κ ((qa.alloc _ _).trans ah);have Y:Hid (w1.heap[w.heap.size]? =some (.cells #[ι 0,ι 0] 50 (0,0))):=κ (qc ah (qj w _));clear aB ah aA))
 unfold maxLen at aO
 go_loopw [9] (λag wr=> ∃j:Nat,j<=s.origins.length/\ag= ι j/\(∀i (hi:i<s.origins.length),i<j->s.readyAt s.origins[i]=false)/\qa w1 wr) (λag _=>s.origins.length-(intOf ag).toNat)
 case atStart=>exact⟨0,τ,rfl,λi hi h=>by omega,qa.refl _⟩
 case round=>
  obtain⟨j,aY,rfl,aw,au⟩:=hrel;have ab:=κ aw;have G:=κ au;clear aw au;by_cases hlt:j<s.origins.length
  ·have aN:(j:Int)<(s.origins.length:Int):=by omega
   obtain⟨b,rfl,aW,aq,O,c1⟩:=aG.o j hlt;have O:wr.cell? ⟨b,j* 2,none⟩=some (ι (s.origins[j]).1):=by rw[G.o.cells _ _ aq];exact O
   have c1:wr.cell? ⟨b,j* 2+1,none⟩=some (ι (s.origins[j]).2):=by rw[G.o.cells _ _ aq];exact c1
   obtain⟨t,af⟩:=yB (List.getElem_mem hlt);have ak:=κ (λI=>ZW s.readyAt s.origins j hlt ab.o I);have az:s.readyAt s.origins[j]=xa t.buf s.clock:=by unfold RmS.readyAt;rw[af]
   have ac:=κ az;clear az;obtain⟨p,ap,v,ay,U⟩:=N.o.strAt af;have am:Hid (∀o,o=s.origins[j]->(∀I:xa t.buf s.clock=true,s.ready=some o)):=κ (λo e I=>by rw[e];exact ak.o (by rw[ac.o];exact I))
   have aI:Hid (xa t.buf s.clock=false-> ∀i (hi:i<s.origins.length),i<j+1->s.readyAt s.origins[i]=false):=κ (λI i hi h=>by
    by_cases e:i<j
    ·exact ab.o i hi e
    ·obtain rfl:i=j:=by omega
     rw[ac.o];exact I)
   generalize s.origins[j]=o at *;obtain⟨H,o2⟩:=o;simp only at O c1;have aF:=κ (am.o (H,o2) rfl);obtain⟨W1,M⟩:=ν (wr.alloc (.cells #[ι H,ι o2] 50));have J:Hid (qa w W1):=κ (by rw[<-M];exact(an.o.trans G.o).al _);have ao:Hid (qa w1 W1):=κ (by rw[<-M];exact G.o.al _);have aC:Hid (W1.heap[wr.heap.size]? =some (.cells #[ι H,ι o2] 50 (0,0))):=κ (by rw[<-M];exact qj wr _);have ad:=λ(x:qt W1)=>qc x.h aC.o
   have aU:=λx=>β0 (ad x);have aV:=λx=>β1 (ad x);clear ad
   have ae:=λ(x:qt W1)=>qc (J.o.trans x.h) N.o.blk
   have aQ:=λx=>β13 (ae x);have aR:=λx=>β9 (ae x);clear ae
   have aT:=λ(x:qt W1)=>β0 (qc (J.o.trans x.h) U.blk)
   have aS: ∀x:qt W1,(Instr.lookup 84 (.map (some k.MS)) (θ #[ι H,ι o2]) false).run prog x.w'= .ok (γ p) x.w':=λx=>by
    have:=ya ((N.o.all .sts).2.more (J.o.trans x.h)) (H,o2) false;rw[ay] at this;exact this
   have aj: ∀x:qt W1,Calls prog 101 #[γ ap,ι s.clock] x.w' λe w'=>e= .returned (μ (xa t.buf s.clock))/\qa x.w' w':=λx=>Z7 t.buf U.ok ap v s.clock aE.o x.w' (U.buf.on (J.o.trans x.h))
   generalize xa t.buf s.clock=rd at *;have aD:=κ aj;clear aj U ay af ak ac am
   go_upto_region 4 with fail
   (try rw[M])
   clear M O c1;refine qD _ (qa.refl _) ξ ξ ?_
   repeat (go_big_quiet_step ((go_at_call 101;exact j6 (aD.o _))))
   refine wpQuiet_nil ?_;intro _ aP;obtain⟨ai,rfl⟩:=aP;cases rd with
   | true=>
    have ar:=aF.o rfl;have aX:w.heap.size≠wr.heap.size:=by have:=G.o.size;have:=qn Y.o;omega
    have d:=κ (qc (ao.o.trans ai.h) Y.o);have aJ:=qd d.o 0;have aK:=qd d.o 1;have aL:=β0 d.o;have aM:=β1 d.o;have aa:=κ ar;clear ar;go_wp2
    (refine bodyPost_ret (v:= .tuple #[θ #[ι H,ι o2],true]) (yo results63 _ _ (w.heap.size) 50 #[ι H,ι o2] _ _ rfl rfl (qB (qp (qp d.o 0 _) 1 _) rfl) underlying50 rfl ξ) rfl ?_)
    refine⟨?_,(J.o.trans ai.h).st (Nat.le_refl _) _ |>.st (Nat.le_refl _) _⟩;unfold RmS.readyO;rw[aa.o];rfl
   | false=>
    have aH:=κ (aI.o rfl);go_wp2;go_roundw
    case rel=>exact⟨j+1,τ,by go_num,aH.o,ao.o.trans ai.h⟩
    case measure=>simp[intOf];omega
  ·obtain rfl:j=s.origins.length:=by omega
   have aN: ¬(s.origins.length:Int)<(s.origins.length:Int):=by omega
   have ax:s.ready=none:=PJ s.readyAt s.origins (λi hi=>ab.o i hi hi);have aa:=κ ax;have d:=κ (qc G.o Y.o);have aJ:=qd d.o 0;have aK:=qd d.o 1;have aL:=β0 d.o;have aM:=β1 d.o;clear ax;go_wp2
   (refine bodyPost_ret (v:= .tuple #[θ #[ι 0,ι 0],false]) (yo results63 _ _ (w.heap.size) 50 #[ι 0,ι 0] _ _ rfl rfl (qB (qp (qp d.o 0 _) 1 _) rfl) underlying50 rfl ξ) rfl ?_)
   refine⟨?_,(an.o.trans G.o).st (Nat.le_refl _) _ |>.st (Nat.le_refl _) _⟩;unfold RmS.readyO;rw[aa.o];rfl
end
structure zc (s:RmS):Prop where
 keys: ∀x,(qh s.tab.u x).isSome=true->0<=x/\x<6
 lane: ∀x,(qh s.tab.u x).isSome=(qh s.lanes x).isSome
 few:s.tab.u.length<=1000000
theorem Hk {w:World} {T a b c:Nat} {t:TS} (h:jq w T a b c t) (v0:Int) (I: ∀x,(qh t.u x).isSome=true->0<=x/\x<6) (J:t.u.length<=1000000):
  Calls prog 121 #[γ T,ι v0] w λe w'=>(∃v,e= .returned v/\SlI .i64 w' v (prR (j8 v0) t.u)/\ ∀q,v.ownBlock=some q->w.heap.size<=q)/\qa w w':=by
 rw[<-Vl h.mu.keys I]
 go_enter func121,ntmps121
 go_wp2_with (go_at_call 156;(go_call Dm (h.more (qa.alloc w (.cells #[ι v0] 3))) v0 (qj w _) J as e w2 ⟨⟨v,rfl,s,d⟩,m⟩;have S:=κ s;have H:=κ m;have G:=κ d;clear s m d))
 go_ret;exact⟨⟨_,rfl,S.o,λq d=>Nat.le_trans (qa.alloc _ _).size (G.o q d)⟩,(qa.alloc _ _).trans H.o⟩
theorem FO {w:World} {T a b c:Nat} {t:TS} (h:jq w T a b c t) (v0:Int) (I: ∀x,(qh t.u x).isSome=true->0<=x/\x<6) (J:t.u.length<=1000000):
  Calls prog 176 #[γ T,ω v0] w λe w'=>(∃v,e= .returned v/\SlI .i64 w' v (prR (zV v0) t.u)/\ ∀q,v.ownBlock=some q->w.heap.size<=q)/\qa w w':=by
 rw[<-Vl h.mu.keys I]
 go_enter func176,ntmps176
 go_wp2_with (go_at_call 156;(go_call Ku (h.more (qa.alloc w (.cells #[ω v0] 37))) v0 (qj w _) J as e w2 ⟨⟨v,rfl,s,d⟩,m⟩;have S:=κ s;have H:=κ m;have G:=κ d;clear s m d))
 go_ret;exact⟨⟨_,rfl,S.o,λq d=>Nat.le_trans (qa.alloc _ _).size (G.o q d)⟩,(qa.alloc _ _).trans H.o⟩
section
variable {T:Nat->Tg} {w0 w w':World} {k:RmK} {vp vr:Value} {s:RmS} {F:List Nat}
theorem Vq (J:zc s) {H:Sb->Bool} {x:Int} (h:x∈prR H s.tab.u): ∃d l,qh s.tab.u x=some d/\qh s.lanes x=some l:=by
 obtain⟨_,d,G,_⟩:=(WL H s.tab.u x).1 h;have:=J.lane x;rw[G] at this;obtain⟨l,I⟩:=Option.isSome_iff_exists.1 this.symm;exact⟨d,l,G,I⟩
def kH (s:RmS) (n:Int) (x:Int):Bool:=match qh s.lanes x with
 | some l=>wO l n
 | none=>false
theorem Ax (s:RmS) (o:Og) {t:zu} (d:qh s.strs o=some t):s.wants o=(t.askedOf||(prR (j8 o.1) s.tab.u).any (kH s o.2)):=by
 unfold RmS.wants;rw[d];rfl
theorem FA (h:RmX T w0 w k vp vr s F) (bf:zc s) (Y o2:Int) {t:zu} (am:qh s.strs (Y,o2)=some t):
  Calls prog 79 #[γ k.R,θ #[ι Y,ι o2]] w λe w'=>e= .returned (μ (s.wants (Y,o2)))/\qa w w':=by
 have af:=κ h;obtain⟨p,bF,v,bc,ac⟩:=h.strAt am;rw[Ax s (Y,o2) am];have av:=κ bf;obtain⟨W1,ap⟩:=ν (w.alloc (.cells #[ι Y,ι o2] 50));have ab:Hid (qa w W1):=κ (by rw[<-ap];exact qa.alloc _ _);have aq:Hid (W1.heap[w.heap.size]? =some (.cells #[ι Y,ι o2] 50 (0,0))):=κ (by rw[<-ap];exact qj w _);have ax:=λ(x:qt W1)=>qc x.h aq.o
 have aU:=λx=>β0 (ax x);have bo:=λx=>β1 (ax x);clear ax
 have ay:=λ(x:qt W1)=>qc (ab.o.trans x.h) af.o.blk
 have bm:=λx=>β13 (ay x);have aS:=λx=>β11 (ay x);clear ay
 have aT:=λ(x:qt W1)=>β7 (qc (ab.o.trans x.h) ac.blk)
 have bn: ∀x:qt W1,(Instr.lookup 84 (.map (some k.MS)) (θ #[ι Y,ι o2]) false).run prog x.w'= .ok (γ p) x.w':=λx=>by
  have:=ya (af.o.stm.more (ab.o.trans x.h)) (Y,o2) false;rw[bc] at this;exact this
 clear bc ac am h bf;obtain⟨bu,aX⟩:=ν (t.askedOf);rw[aX] at aT ⊢;clear aX
 go_enter func79,ntmps79
 go_upto_region 1 with fail
 (try rw[ap])
 clear ap;refine qD _ (qa.refl _) ξ ξ ?_
 repeat (go_big_quiet_step (fail))
 refine wpQuiet_nil ?_;intro _ bA;obtain⟨aR,rfl⟩:=bA;cases bu with
 | true=>
  go_wp2;go_ret;exact⟨rfl,ab.o.trans aR.h⟩
 | false=>
  go_upto_region 3 with fail
  obtain⟨W2,aE⟩:=ν (aR.w');have ag:Hid (qa W1 W2):=κ (by rw[<-aE];exact aR.h)
  (try rw[aE])
  clear aE aT bn bm;have bp: ∀x:qt W2,x.w'.cell? ⟨w.heap.size,0,none⟩=some (ι Y):=λx=>aU ⟨_,ag.o.trans x.h⟩
  have bq: ∀x:qt W2,x.w'.cell? ⟨k.R,11,none⟩=some (π (some ⟨k.tb,0,none⟩)):=λx=>aS ⟨_,ag.o.trans x.h⟩
  clear aU bo aS;refine zC W2 9 [(0,false),(1,false),(2,false),(3,false),(4,false),(5,false),(8,false),(6,true),(7,false)] ξ ξ ?_
  refine Qq7 ?_
  (refine Ql ?_;intro K aD)
  go_call Hk (af.o.tab.more ((ab.o.trans ag.o).dr 1)) Y av.o.keys av.o.few as e bl ⟨⟨v3,rfl,bE,bB⟩,bj⟩;have aj:Hid (qa W2 bl):=κ ((qa.drewN _ 1).trans bj);obtain⟨bJ,cap,rfl,bz,be,_⟩:=bE;have aW:=κ be;clear bj bB be;refine⟨_,rfl,qk aj.o,aD _ _ ?_⟩;clear aD K
  iterate 1 (refine qE rfl rfl (qk aj.o) ?_;intro K aD;go_big_quiet_op;go_big_quiet_on)
  refine qA ?_;clear bp bq;have bt:=κ (ab.o.trans (ag.o.trans aj.o));have an:=κ (qc (ag.o.trans aj.o) aq.o);clear ab ag aj aq;obtain⟨L,ak⟩:=ν (prR (j8 Y) s.tab.u);have bs:Hid (∀x∈L,∃l,qh s.lanes x=some l):=κ (λx ac=>by rw[<-ak] at ac;obtain⟨_,l,_,h⟩:=Vq av.o ac;exact⟨l,h⟩);have aV:=κ ak;rw[ak] at aW bz;simp only[ak];clear ak;go_wp2
  go_loopw [27] (λaP wr=> ∃j:Nat,j<=L.length/\aP= ι j/\(∀i (hi:i<L.length),i<j->kH s o2 L[i]=false)/\qa bl wr) (λaP _=>L.length-(intOf aP).toNat)
  case atStart=>exact⟨0,τ,rfl,λi hi h=>by omega,qa.refl _⟩
  case round=>
   obtain⟨j,bH,rfl,bb,aL⟩:=hrel;have au:=κ bb;have O:=κ (bt.o.trans aL);have aa:=κ aL;clear bb aL;by_cases hlt:j<L.length
   ·have bx:(j:Int)<(L.length:Int):=by omega
    obtain⟨b,bC,rfl,bv,aF⟩:=aW.o j hlt;have aF:wr.cell? ⟨b,bC+j,none⟩=some (ι (L.getD j 0)):=by rw[aa.o.cells _ _ bv];exact aF
    have aZ:L.getD j 0=L[j]:=by simp[hlt]
    obtain⟨l,aG⟩:=bs.o L[j] (List.getElem_mem hlt);have aO:kH s o2 L[j]=wO l o2:=by unfold kH;rw[aG]
    have ad:Hid (wO l o2=false-> ∀i (hi:i<L.length),i<j+1->kH s o2 L[i]=false):=κ (λbw i hi h=>by
     by_cases e:i<j
     ·exact au.o i hi e
     ·obtain rfl:i=j:=by omega
      rw[aO];exact bw)
    have aw:Hid (wO l o2=true->L.any (kH s o2)=true):=κ (λam=>List.any_eq_true.2 ⟨L[j],List.getElem_mem hlt,by rw[aO];exact am⟩);obtain⟨p2,bd,ba⟩:=af.o.laneAt aG;have ar:=κ ba;rw[aZ] at aF;have q:=xq (af.o.lnm.more O.o) L[j] false;rw[bd] at q;generalize L[j]=x at *;have bG:=β12 (qc O.o af.o.blk);clear aZ aO aG ba bd au;obtain⟨bi,aK⟩:=ν (l.wanted);obtain⟨bh,aI⟩:=ν (l.gone);obtain⟨H,aH⟩:=ν (l.cur);obtain⟨d,aJ⟩:=ν (l.tgt);have bg:wO l o2=(bi&&(!bh&&(!decide (H=d)&&decide (d=o2)))):=by unfold wO;rw[aK,aI,aH,aJ]
    have ae:=κ (λw m=>Xb (ar.o.on (w':=w) m));have ai:=κ (λw m=>JB (ar.o.on (w':=w) m));rw[aK,aH,aJ] at ae;rw[aI] at ai;rw[bg] at ad aw;clear aK aI aH aJ bg ar;have aY:((Gh (some p2)):Value)= γ p2:=rfl;simp only[aY,Bool.false_eq_true,if_false] at q;clear aY;cases bi with
    | false=>
     go_wp2_with (go_at_call 67;(go_call ae.o _ O.o as e w5 ⟨rfl,N⟩;have I:=κ N;clear N))
     go_roundw
     case rel=>exact⟨j+1,τ,by go_num,ad.o rfl,(aa.o.trans I.o).al _⟩
     case measure=>simp[intOf];omega
    | true=>
     cases bh with
     | true=>
      go_wp2_with (first | (go_at_call 67;(go_call ae.o _ O.o as e w5 ⟨rfl,N⟩;have I:=κ N;clear N)) | (go_at_call 69;(go_call ai.o _ ((O.o.trans I.o).al (.cells #[ι H,ι d] 71)) as e w6 ⟨rfl,M⟩;have U:=κ M;have J:=κ (qc M (qj w5 (.cells #[ι H,ι d] 71)));have aA:=β0 J.o;have aB:=β1 J.o;clear M)) | (go_at_call 122;(go_call vK H d w6 as e aQ ⟨rfl,G⟩;rw[ao.o];have ah:=κ G;have aC:=β1 (qc G J.o);have az:=β1 (qc (aa.o.trans (((I.o.al (.cells #[ι H,ι d] 71)).trans U.o).trans G)) an.o);clear G)))
      go_roundw
      case rel=>exact⟨j+1,τ,by go_num,ad.o rfl,((aa.o.trans I.o).al _).trans U.o⟩
      case measure=>simp[intOf];omega
     | false=>
      obtain⟨bD,aM⟩:=ν ((!decide (H=d)));obtain⟨bk,aN⟩:=ν (decide (d=o2));have bI:(d==o2)=bk:=by rw[<-aN];rfl
      rw[aM,aN] at ad aw;have ao:=κ aM;clear aM aN;cases bD with
      | false=>
       go_wp2_with (first | (go_at_call 67;(go_call ae.o _ O.o as e w5 ⟨rfl,N⟩;have I:=κ N;clear N)) | (go_at_call 69;(go_call ai.o _ ((O.o.trans I.o).al (.cells #[ι H,ι d] 71)) as e w6 ⟨rfl,M⟩;have U:=κ M;have J:=κ (qc M (qj w5 (.cells #[ι H,ι d] 71)));have aA:=β0 J.o;have aB:=β1 J.o;clear M)) | (go_at_call 122;(go_call vK H d w6 as e aQ ⟨rfl,G⟩;rw[ao.o];have ah:=κ G;have aC:=β1 (qc G J.o);have az:=β1 (qc (aa.o.trans (((I.o.al (.cells #[ι H,ι d] 71)).trans U.o).trans G)) an.o);clear G)))
       go_roundw
       case rel=>exact⟨j+1,τ,by go_num,ad.o rfl,(((aa.o.trans I.o).al _).trans U.o).trans ah.o⟩
       case measure=>simp[intOf];omega
      | true=>
       cases bk with
       | false=>
        go_wp2_with (first | (go_at_call 67;(go_call ae.o _ O.o as e w5 ⟨rfl,N⟩;have I:=κ N;clear N)) | (go_at_call 69;(go_call ai.o _ ((O.o.trans I.o).al (.cells #[ι H,ι d] 71)) as e w6 ⟨rfl,M⟩;have U:=κ M;have J:=κ (qc M (qj w5 (.cells #[ι H,ι d] 71)));have aA:=β0 J.o;have aB:=β1 J.o;clear M)) | (go_at_call 122;(go_call vK H d w6 as e aQ ⟨rfl,G⟩;rw[ao.o];have ah:=κ G;have aC:=β1 (qc G J.o);have az:=β1 (qc (aa.o.trans (((I.o.al (.cells #[ι H,ι d] 71)).trans U.o).trans G)) an.o);clear G)))
        go_roundw
        case rel=>exact⟨j+1,τ,by go_num,ad.o rfl,(((aa.o.trans I.o).al _).trans U.o).trans ah.o⟩
        case measure=>simp[intOf];omega
       | true=>
        go_wp2_with (first | (go_at_call 67;(go_call ae.o _ O.o as e w5 ⟨rfl,N⟩;have I:=κ N;clear N)) | (go_at_call 69;(go_call ai.o _ ((O.o.trans I.o).al (.cells #[ι H,ι d] 71)) as e w6 ⟨rfl,M⟩;have U:=κ M;have J:=κ (qc M (qj w5 (.cells #[ι H,ι d] 71)));have aA:=β0 J.o;have aB:=β1 J.o;clear M)) | (go_at_call 122;(go_call vK H d w6 as e aQ ⟨rfl,G⟩;rw[ao.o];have ah:=κ G;have aC:=β1 (qc G J.o);have az:=β1 (qc (aa.o.trans (((I.o.al (.cells #[ι H,ι d] 71)).trans U.o).trans G)) an.o);clear G)))
        go_ret;exact⟨by rw[aV.o,aw.o rfl];rfl,(((O.o.trans I.o).al _).trans U.o).trans ah.o⟩
   ·obtain rfl:j=L.length:=by omega
    have bx: ¬(L.length:Int)<(L.length:Int):=by omega
    have br:Hid (L.any (kH s o2)=false):=κ (by
     rw[List.any_eq_false];intro x ac;obtain⟨i,hi,rfl⟩:=List.mem_iff_getElem.1 ac;rw[au.o i hi hi]
     decide)
    go_wp2;go_ret;exact⟨by rw[aV.o,br.o];rfl,O.o⟩
end
section
variable {T:Nat->Tg} {w0 w w':World} {k:RmK} {vp vr:Value} {s:RmS} {F:List Nat}
theorem RmX.at (h:RmX T w0 w k vp vr s F):qI w0 w k s F:=⟨T,vp,vr,h⟩
theorem RmX.self (h:RmX T w0 w k vp vr s F) (a:qg (λb=>b=k.R) w w') {s':RmS} (G:w'.heap[k.R]? =some (.cells (zH k vp vr s') 88 (0,0)))
  (rest: ∀u,u≠ .room->u≠ .no->k.Holds (jZ T .room w w') w' vp vr s u->k.Holds (jZ T .room w w') w' vp vr s' u):qI w0 w' k s' F/\qw F w w':=by
 obtain⟨d,_⟩:=h.all .room;have I:=h.fresh;obtain⟨x,y⟩:=h.own (t:= .room) (k':=k) (vp':=vp) (vr':=vr) (s':=s') ⟨η,η⟩ (a.mono λb H=>by rw[H];exact d) ⟨(jd I η _).2 (Or.inl d),G⟩ rest;exact⟨x.at,y⟩
theorem RmX.book (h:RmX T w0 w k vp vr s F) {m:Bk} (b:jy w' k.B k.b m) (a:qg (λx=>x=k.b) w w'):qI w0 w' k {s with book:=m} F/\qw F w w':=by
 obtain⟨H,d,_⟩:=h.all .book;have G:=h.fresh;obtain⟨x,y⟩:=h.own (t:= .book) (k':=k) (vp':=vp) (vr':=vr) (s':={s with book:=m}) ⟨η,η⟩ (a.mono λb I=>by rw[I];exact d) ⟨(jd G η _).2 (Or.inl H),(jd G η _).2 (Or.inl d),b⟩ (λu J M x=>by cases u<;>first | exact x | exact absurd rfl J);exact⟨x.at,y⟩
theorem RmX.table (h:RmX T w0 w k vp vr s F) {t:TS} (b:jq w' k.tb k.ta k.tc k.td t) (a:qg (λx=>x=k.ta∨x=k.tc∨x=k.td) w w'):qI w0 w' k {s with tab:=t} F/\qw F w w':=by
 obtain⟨G,H,I,J,_⟩:=h.all .table;have d:=h.fresh;obtain⟨x,y⟩:=h.own (t:= .table) (k':=k) (vp':=vp) (vr':=vr) (s':={s with tab:=t}) ⟨η,η⟩ (a.mono λb M=>by rcases M with rfl | rfl | rfl<;>assumption)
  ⟨(jd d η _).2 (Or.inl G),(jd d η _).2 (Or.inl H),(jd d η _).2 (Or.inl I),(jd d η _).2 (Or.inl J),b⟩ (λu N O x=>by cases u<;>first | exact x | exact absurd rfl N)
 exact⟨x.at,y⟩
theorem RmX.retMap (h:RmX T w0 w k vp vr s F) {m:List (Og×Bool)} (b:jk w' k.M1 kO μ m) (a:qg (λx=>x=k.M1) w w'):qI w0 w' k {s with ret:=m} F/\qw F w w':=by
 obtain⟨d,_⟩:=h.all .ret;have H:=h.fresh;obtain⟨x,y⟩:=h.own (t:= .ret) (k':=k) (vp':=vp) (vr':=vr) (s':={s with ret:=m}) ⟨η,η⟩ (a.mono λb G=>by rw[G];exact d) ⟨(jd H η _).2 (Or.inl d),b⟩ (λu I J x=>by cases u<;>first | exact x | exact absurd rfl I);exact⟨x.at,y⟩
theorem RmX.ring (h:RmX T w0 w k vp vr s F) {q:List (List Int)} (a:qg (RgB k.RQ k.AQ) w w') (b: ∀D:Nat->Prop,(∀b,D b->T b≠ .data∨w.heap.size<=b)->RgR 1 188 34 RBy D w' k.RQ k.AQ s.cfg.room.toNat q):qI w0 w' k {s with queue:=q} F/\qw F w w':=by
 obtain⟨H,I,_⟩:=h.all .queue;have G:=h.fresh;obtain⟨x,y⟩:=h.own (t:= .queue) (k':=k) (vp':=vp) (vr':=vr) (s':={s with queue:=q}) ⟨η,η⟩ (a.mono λb d=>by rcases d with rfl | rfl<;>assumption)
  ⟨(jd G η _).2 (Or.inl H),(jd G η _).2 (Or.inl I),b _ (λb d=>Or.inl (λe=>d ((jF G η η b).2 e)))⟩ (λu J M x=>by cases u<;>first | exact x | exact absurd rfl J)
 exact⟨x.at,y⟩
theorem RmX.lanePut (h:RmX T w0 w k vp vr s F) {x:Int} {l l':LnS} {p:Nat} (O:qh s.lanes x=some l) (I:qh k.LA x=some p) (b:zw (xf (λb=>T b= .lane x) w w') w' p l') (a:qg (λb=>T b= .lane x) w w'):
  qI w0 w' k {s with lanes:=qx s.lanes x l'} F/\qw F w w':=by
 have J:=h.fresh;obtain⟨y,z⟩:=h.own (t:= .lane x) (k':=k) (vp':=vp) (vr':=vr) (s':={s with lanes:=qx s.lanes x l'}) ⟨η,η⟩ a
  ⟨λaa Y G d=>by
   rw[I] at G;rw[xD] at d;injection G with G
   injection d with d
   subst G d;rw[wW J η]
   exact b,by rw[I,xD];rfl⟩
  (λu M U y=>by
   cases u<;>first | exact y | skip
   rename_i N;have H:N≠x:=λe=>M (by rw[e])
   exact⟨λp l G d=>y.1 p l G (by rw[vF _ _ H] at d;exact d),by rw[vF _ _ H];exact y.2⟩)
 exact⟨y.at,z⟩
theorem RmX.strPut (h:RmX T w0 w k vp vr s F) {o:Og} {t t':zu} {p:Nat} (U:qh s.strs o=some t) (I:qh k.SA o=some p) (b:Hl (xf (λb=>T b= .str o) w w') w' p t') (a:qg (λb=>T b= .str o) w w'):
  qI w0 w' k {s with strs:=qx s.strs o t'} F/\qw F w w':=by
 have J:=h.fresh;obtain⟨y,z⟩:=h.own (t:= .str o) (k':=k) (vp':=vp) (vr':=vr) (s':={s with strs:=qx s.strs o t'}) ⟨η,η⟩ a
  ⟨λaa Y G d=>by
   rw[I] at G;rw[xD] at d;injection G with G
   injection d with d
   subst G d;rw[wW J η]
   exact b,by rw[I,xD];rfl⟩
  (λu M O y=>by
   cases u<;>first | exact y | skip
   rename_i N;have H:N≠o:=λe=>M (by rw[e])
   exact⟨λp l G d=>y.1 p l G (by rw[vF _ _ H] at d;exact d),by rw[vF _ _ H];exact y.2⟩)
 exact⟨y.at,z⟩
theorem RmX.strSet (h:RmX T w0 w k vp vr s F) {o:Og} {t t':zu} {p H:Nat} {v:Value} (J:qh s.strs o=some t) (I:qh k.SA o=some p) (x:KJ (λb=>T b= .str o) w p H v t) (a:qg (λb=>b=p) w w')
  (blk:w'.heap[p]? =some (.cells (gK H t') 124 (0,0))) (e:t'.buf=t.buf):qI w0 w' k {s with strs:=qx s.strs o t'} F/\qw F w w':=by
 refine h.strPut J I ⟨H,v,blk, ?_,by rw[e];exact x.ok,λb d=> ?_,Or.inl x.np,Or.inl x.nb,x.ne,λg G=>⟨Or.inl (x.nv g G).1,(x.nv g G).2⟩⟩ (a.mono λb d=>by rw[d];exact x.np)
 ·rw[e];exact⟨a.blk x.buf.blk (Ne.symm x.ne),x.buf.row.away a (λg G=>(x.nv g G).2)⟩
 ·rcases d with d | d
  ·exact Nat.lt_of_lt_of_le (x.sub b d) a.size
  ·exact d.2
theorem RmX.strBuf (h:RmX T w0 w k vp vr s F) {o:Og} {t:zu} {b:Jb} {p H:Nat} {v v':Value} (O:qh s.strs o=some t) (M:qh k.SA o=some p) (x:KJ (λb=>T b= .str o) w p H v t) (st:kc w w' H v v' b) (U:JOK b):
  qI w0 w' k {s with strs:=qx s.strs o {t with buf:=b}} F/\qw F w w':=by
 have a:qg (λb=>T b= .str o) w w':=st.away.mono λg d=>by
  rcases d with rfl | d
  ·exact x.nb
  ·exact(x.nv g d).1
 have N: ¬(p=H∨v.ownBlock=some p):=by
  rintro(e | e)
  ·exact x.ne e
  ·exact(x.nv p e).2 rfl
 refine h.strPut O M ⟨H,v',st.away.blk x.blk N,st.buf,U,λb G=> ?_,Or.inl x.np,Or.inl x.nb,x.ne,λg d=> ?_⟩ a
 ·rcases G with G | G
  ·exact Nat.lt_of_lt_of_le (x.sub b G) a.size
  ·exact G.2
 ·have J:g<w'.heap.size:=by
   rcases st.buf.row.2 with ⟨e,_⟩ | ⟨aa,cap,cur,e,_,I,_⟩
   ·rw[e] at d;cases d
   ·rw[e] at d;injection d with d
    have:=lt_of_block I;simp only at d;omega
  rcases st.own with e | ⟨g',e,hge⟩
  ·rw[e] at d;exact⟨Or.inl (x.nv g d).1,(x.nv g d).2⟩
  ·rw[e] at d;injection d with d
   subst d;exact⟨Or.inr ⟨hge,J⟩,λY=>by have:=lt_of_block x.blk;omega⟩
end
section
variable {w0 w w':World} {k:RmK} {s:RmS} {F:List Nat}
theorem FG (h:qI w0 w k s F) (M sub:Int) (acc:Bool) {l:LnS} (ai:qh s.lanes sub=some l):
  Calls prog 87 #[γ k.R,θ #[ι M,ι sub],acc] w λe w'=>e= .returned (.tuple #[])/\qI w0 w' k (s.choose sub) F/\qw F w w':=by
 have ac:=κ (h.stay (qa.alloc w (.cells #[ι M,ι sub] 36)));have ap:=h.adds (qa.alloc w (.cells #[ι M,ι sub] 36)) (Fn:=[w.heap.size]) (λb d=>by simp at d;subst d;simp);have aa:=κ (qj w (.cells #[ι M,ι sub] 36));obtain⟨W1,ah⟩:=ν (w.alloc (.cells #[ι M,ι sub] 36));rw[ah] at ap aa ac;obtain⟨T,vp,aQ,H⟩:=ap;have O:=κ H;obtain⟨p,au,ar⟩:=H.laneAt ai;have aD:=κ ar;have am:=κ au;have ab:=κ ai;have aI: ¬T k.R= .lane sub:=by rw[(H.all .room).1];simp
 have aH: ¬T k.ML= .lane sub:=by rw[(H.all .lns).1];simp
 have aG: ¬T w.heap.size= .lane sub:=by rw[(H.law w.heap.size η).1];simp
 have ay:=λ(x:qz (λb=>T b= .lane sub) W1)=>β12 (x.h.blk O.o.blk aI)
 have aA:=λ(x:qz (λb=>T b= .lane sub) W1)=>β1 (x.h.blk aa.o aG)
 have az: ∀x:qz (λb=>T b= .lane sub) W1,(Instr.lookup 83 (.map (some k.ML)) (ι sub) false).run prog x.w'= .ok (γ p) x.w':=λx=>by
  have:=xq (O.o.lnm.away x.h aH) sub false;rw[am.o] at this;exact this
 have al:=κ (λw (m:qa W1 w)=>Df (aD.o.on m));obtain⟨aw,id,J,ok,ag⟩: ∃aw id J ok,jf l=(aw,id,J,ok):=⟨_,_,_,_,rfl⟩;rw[ag] at al;have an:=κ ag;clear h H ai au ar ag
 go_enter func87,ntmps87
 go_upto_region 1 with fail
 (try rw[ah])
 clear ah;refine QN (λb=>T b= .lane sub) W1 15 15 [7] ?_
 refine Qs7 ?_
 (refine Ql ?_;intro K G)
 go_call al.o _ (qa.drewN _ 1) as e w2 ⟨rfl,av,ae⟩;obtain⟨af,t2⟩:=(O.o.on (qa.drewN W1 1)).lanePut ab.o am.o av ae;have ak:=κ af;have ad:Hid (qw ([w.heap.size]++F) W1 w2):=κ ((af |> λ_=>(O.o.at.stay (qa.drewN W1 1))).trans t2);have aj:Hid (qg (λb=>T b= .lane sub) W1 w2):=κ (((qg.refl _ _).drewN 1).trans ae);clear av ae af t2;refine⟨_,rfl,qi aj.o,G _ _ ?_⟩;clear G K
 iterate 7 (refine qE rfl rfl (qi aj.o) ?_;intro K G;go_big_quiet_op;go_big_quiet_on)
 refine qA ?_;clear ay aA az;have aC:=κ (ad.o.blk η aa.o);obtain⟨c,Y⟩:=ν ((ok&& !decide (J=0)));have N:=κ Y
 go_upto_region 2 with fail
 go_cut [25] from 21 (λv aL=>v= μ c/\aL=w2)
 case first=>
  cases ok with
  | false=>
   clear Y;go_wp2;go_meet;exact⟨by rw[<-N.o];rfl,rfl⟩
  | true=>
   clear Y;go_wp2;go_meet;exact⟨by rw[<-N.o];by_cases e:J=0<;>simp[e],rfl⟩
 case rest=>
 obtain⟨rfl,aF⟩:=hcut;obtain rfl:=aF.symm;clear Y;cases c with
 | false=>
  go_wp2
  (refine bodyPost_end (v:= .tuple #[]) ?re1 rfl ?_;(case re1=>simp[results,results87,go_sem]))
  exact⟨rfl,by unfold RmS.choose;rw[ab.o];simp only[an.o];rw[N.o];exact ak.o.sub (λb d=>List.mem_append_right _ d),ac.o.trans (ad.o.sub (λb d=>List.mem_append_right _ d))⟩
 | true=>
  obtain⟨aO,aP,aR,I⟩:=ak.o;have U:=κ I;have aJ:k.R≠k.b:=λe=>by
   obtain⟨_,d,_⟩:=I.all .book;rw[<-e,(I.all .room).1] at d;cases d
  have aK:w.heap.size≠k.b:=λe=>by
   obtain⟨_,d,_⟩:=I.all .book;rw[<-e,(I.law w.heap.size η).1] at d;cases d
  have aM:=λ(x:qz (λb=>b=k.b) w2)=>β0 (x.h.blk U.o.blk aJ)
  have aN:=λ(x:qz (λb=>b=k.b) w2)=>β1 (x.h.blk aC.o aK)
  clear I
  go_upto_region 3 with fail
  refine QN (λb=>b=k.b) w2 9 9 [8] ?_
  refine Qs8 ?_
  (refine Ql ?_;intro K G)
  go_call gI (U.o.on (qa.drewN w2 1)).bok sub id J as e w4 ⟨rfl,ao,a4⟩;obtain⟨aq,t4⟩:=(U.o.on (qa.drewN w2 1)).book ao a4;have aB:=κ aq;have aE:Hid (qw ([w.heap.size]++F) w2 w4):=κ ((U.o.at.stay (qa.drewN w2 1)).trans t4);have ax:Hid (qg (λb=>b=k.b) w2 w4):=κ (((qg.refl _ _).drewN 1).trans a4);clear ao a4 aq t4;refine⟨_,rfl,qi ax.o,G _ _ ?_⟩;clear G K;refine qA ?_;go_wp2
  (refine bodyPost_end (v:= .tuple #[]) ?re2 rfl ?_;(case re2=>simp[results,results87,go_sem]))
  exact⟨rfl,by unfold RmS.choose;rw[ab.o];simp only[an.o];rw[N.o];exact aB.o.sub (λb d=>List.mem_append_right _ d),ac.o.trans ((ad.o.trans aE.o).sub (λb d=>List.mem_append_right _ d))⟩
theorem CE (h:qI w0 w k s F) (J sub:Int) (acc:Bool) {l:LnS} (ai:qh s.lanes sub=some l):
  Calls prog 88 #[γ k.R,θ #[ι J,ι sub],acc] w λe w'=>e= .returned (.tuple #[])/\qI w0 w' k (s.rewrite sub) F/\qw F w w':=by
 have ab:=κ (h.stay (qa.alloc w (.cells #[ι J,ι sub] 36)));have ap:=h.adds (qa.alloc w (.cells #[ι J,ι sub] 36)) (Fn:=[w.heap.size]) (λb d=>by simp at d;subst d;simp);have Y:=κ (qj w (.cells #[ι J,ι sub] 36));obtain⟨W1,ah⟩:=ν (w.alloc (.cells #[ι J,ι sub] 36));rw[ah] at ap Y ab;obtain⟨T,vp,aQ,H⟩:=ap;have N:=κ H;obtain⟨p,au,ar⟩:=H.laneAt ai;have aD:=κ ar;have am:=κ au;have aa:=κ ai;have aI: ¬T k.R= .lane sub:=by rw[(H.all .room).1];simp
 have aH: ¬T k.ML= .lane sub:=by rw[(H.all .lns).1];simp
 have aG: ¬T w.heap.size= .lane sub:=by rw[(H.law w.heap.size η).1];simp
 have ay:=λ(x:qz (λb=>T b= .lane sub) W1)=>β12 (x.h.blk N.o.blk aI)
 have aA:=λ(x:qz (λb=>T b= .lane sub) W1)=>β1 (x.h.blk Y.o aG)
 have az: ∀x:qz (λb=>T b= .lane sub) W1,(Instr.lookup 83 (.map (some k.ML)) (ι sub) false).run prog x.w'= .ok (γ p) x.w':=λx=>by
  have:=xq (N.o.lnm.away x.h aH) sub false;rw[am.o] at this;exact this
 have al:=κ (λw (m:qa W1 w)=>Uv (aD.o.on m));obtain⟨aw,id,ae,ok,ag⟩: ∃aw id ae ok,qY l=(aw,id,ae,ok):=⟨_,_,_,_,rfl⟩;rw[ag] at al;have an:=κ ag;clear h H ai au ar ag
 go_enter func88,ntmps88
 go_upto_region 1 with fail
 (try rw[ah])
 clear ah;refine QN (λb=>T b= .lane sub) W1 15 15 [7] ?_
 refine Qs7 ?_
 (refine Ql ?_;intro K G)
 go_call al.o _ (qa.drewN _ 1) as e w2 ⟨rfl,av,ad⟩;obtain⟨af,t2⟩:=(N.o.on (qa.drewN W1 1)).lanePut aa.o am.o av ad;have ak:=κ af;have ac:Hid (qw ([w.heap.size]++F) W1 w2):=κ ((af |> λ_=>(N.o.at.stay (qa.drewN W1 1))).trans t2);have aj:Hid (qg (λb=>T b= .lane sub) W1 w2):=κ (((qg.refl _ _).drewN 1).trans ad);clear av ad af t2;refine⟨_,rfl,qi aj.o,G _ _ ?_⟩;clear G K
 iterate 7 (refine qE rfl rfl (qi aj.o) ?_;intro K G;go_big_quiet_op;go_big_quiet_on)
 refine qA ?_;clear ay aA az;have aC:=κ (ac.o.blk η Y.o);obtain⟨c,U⟩:=ν ((ok&&ae));have M:=κ U
 go_upto_region 2 with fail
 go_cut [24] from 21 (λv aL=>v= μ c/\aL=w2)
 case first=>
  cases ok with
  | false=>
   clear U;go_wp2;go_meet;exact⟨by rw[<-M.o];rfl,rfl⟩
  | true=>
   clear U;go_wp2;go_meet;exact⟨by rw[<-M.o];rfl,rfl⟩
 case rest=>
 obtain⟨rfl,aF⟩:=hcut;obtain rfl:=aF.symm;clear U;cases c with
 | false=>
  go_wp2
  (refine bodyPost_end (v:= .tuple #[]) ?re3 rfl ?_;(case re3=>simp[results,results88,go_sem]))
  exact⟨rfl,by unfold RmS.rewrite;rw[aa.o];simp only[an.o];rw[M.o];exact ak.o.sub (λb d=>List.mem_append_right _ d),ab.o.trans (ac.o.sub (λb d=>List.mem_append_right _ d))⟩
 | true=>
  obtain⟨aO,aP,aR,I⟩:=ak.o;have O:=κ I;have aJ:k.R≠k.b:=λe=>by
   obtain⟨_,d,_⟩:=I.all .book;rw[<-e,(I.all .room).1] at d;cases d
  have aK:w.heap.size≠k.b:=λe=>by
   obtain⟨_,d,_⟩:=I.all .book;rw[<-e,(I.law w.heap.size η).1] at d;cases d
  have aM:=λ(x:qz (λb=>b=k.b) w2)=>β0 (x.h.blk O.o.blk aJ)
  have aN:=λ(x:qz (λb=>b=k.b) w2)=>β1 (x.h.blk aC.o aK)
  clear I
  go_upto_region 3 with fail
  refine QN (λb=>b=k.b) w2 8 8 [7] ?_
  refine Qs7 ?_
  (refine Ql ?_;intro K G)
  go_call gI (O.o.on (qa.drewN w2 1)).bok sub id 6 as e w4 ⟨rfl,ao,a4⟩;obtain⟨aq,t4⟩:=(O.o.on (qa.drewN w2 1)).book ao a4;have aB:=κ aq;have aE:Hid (qw ([w.heap.size]++F) w2 w4):=κ ((O.o.at.stay (qa.drewN w2 1)).trans t4);have ax:Hid (qg (λb=>b=k.b) w2 w4):=κ (((qg.refl _ _).drewN 1).trans a4);clear ao a4 aq t4;refine⟨_,rfl,qi ax.o,G _ _ ?_⟩;clear G K;refine qA ?_;go_wp2
  (refine bodyPost_end (v:= .tuple #[]) ?re4 rfl ?_;(case re4=>simp[results,results88,go_sem]))
  exact⟨rfl,by unfold RmS.rewrite;rw[aa.o];simp only[an.o];rw[M.o];exact aB.o.sub (λb d=>List.mem_append_right _ d),ab.o.trans ((ac.o.trans aE.o).sub (λb d=>List.mem_append_right _ d))⟩
end
section
variable {w0 w w':World} {k:RmK} {s:RmS} {F:List Nat}
theorem Kd (b:Bk) (x i f:Int):(jp b x i f).length<=b.length+1:=by
 unfold jp zi;split
 ·split
  ·split
   ·split
    ·exact BO _ _
    ·exact Nat.le_succ _
   ·exact Nat.le_succ _
  ·exact Nat.le_succ _
 ·exact Nat.le_succ _
theorem LJ (h:qI w0 w k s F) (sub:Int) (H:s.book.length<=1000000):
  Calls prog 93 #[γ k.B,ι sub,ι 7] w λe w'=>(∃v,e= .returned v)/\qI w0 w' k {s with book:=vM s.book sub 7} F/\qw F w w'/\qg (λx=>x=k.b) w w':=by
 obtain⟨T,vp,I,x⟩:=h;refine(MN x.bok sub 7 H).mono ?_;rintro e w' ⟨⟨v,rfl,_⟩,b,a⟩;obtain⟨d,G⟩:=x.book b a;exact⟨⟨v,rfl⟩,d,G,a⟩
theorem Lc (h:qI w0 w k s F) (sub:Int):
  Calls prog 129 #[γ k.tb,ι sub] w λe w'=>(∃v,e= .returned v)/\qI w0 w' k {s with tab:=(zM s.tab sub).1} F/\qw F w w'/\qg (λx=>x=k.td) w w':=by
 obtain⟨T,vp,H,x⟩:=h;refine(Zr x.tab sub).mono ?_;rintro e w' ⟨rfl,b,a⟩;obtain⟨d,G⟩:=x.table b (a.mono λ_ e=>Or.inr (Or.inr e));exact⟨⟨_,rfl⟩,d,G,a⟩
theorem La (h:qI w0 w k s F) (aa sub:Int) (acc:Bool) {l:LnS} (ay:qh s.lanes sub=some l) (bp:l.W.length<=1000000) (bz:s.book.length<=900000):
  Calls prog 83 #[γ k.R,θ #[ι aa,ι sub],acc] w λe w'=>e= .returned (.tuple #[])/\qI w0 w' k (s.write sub acc) F/\qw F w w':=by
 have aH:=κ (h.stay (qa.alloc w (.cells #[ι aa,ι sub] 36)));have aM:=h.adds (qa.alloc w (.cells #[ι aa,ι sub] 36)) (Fn:=[w.heap.size]) (λb d=>by simp at d;subst d;simp);have ab:=κ (qj w (.cells #[ι aa,ι sub] 36));obtain⟨W1,av⟩:=ν (w.alloc (.cells #[ι aa,ι sub] 36));rw[av] at aM ab aH;obtain⟨T,vp,bD,aA⟩:=aM;have ac:=κ aA;obtain⟨p,aT,aR⟩:=aA.laneAt ay;have bl:=κ aR;have an:=κ aT;have aG:=κ ay;have bb:=λ(x:qt W1)=>β12 (qc x.h ac.o.blk)
 have bd:=λ(x:qt W1)=>β1 (qc x.h ab.o)
 have bc: ∀x:qt W1,(Instr.lookup 83 (.map (some k.ML)) (ι sub) false).run prog x.w'= .ok (γ p) x.w':=λx=>by
  have:=xq (ac.o.lnm.more x.h) sub false;rw[an.o] at this;exact this
 have aE:=κ (λw (m:qa W1 w)=>As (bl.o.on m) bp acc);obtain⟨Y,id,H,ok,au⟩: ∃Y id H ok,qX l acc=(Y,id,H,ok):=⟨_,_,_,_,rfl⟩;rw[au] at aE;have bm:=κ au;clear h aA ay aT aR au
 go_enter func83,ntmps83
 go_upto_region 1 with fail
 (try rw[av])
 clear av;refine qD _ (qa.refl _) ξ ξ ?_
 repeat (go_big_quiet_step (fail))
 refine wpQuiet_nil ?_;intro _ bq;obtain⟨aX,rfl⟩:=bq;obtain⟨W2,aw⟩:=ν (aX.w');have ap:Hid (qa W1 W2):=κ (by rw[<-aw];exact aX.h);rw[aw];clear aw bb bd bc;obtain⟨c,aQ⟩:=ν ((ok&&decide (H=1)));have am:=κ aQ;clear aQ
 go_upto_region 3 with (go_at_call 127;(go_call aE.o _ ap.o as e G ⟨rfl,aN,a3⟩;obtain⟨aL,t3⟩:=(ac.o.on ap.o).lanePut aG.o an.o aN a3;have aC:=κ aL;have aq:Hid (qw ([w.heap.size]++F) W1 G):=κ ((ac.o.at.stay ap.o).trans t3);clear aN a3 aL t3))
 go_cut [28] from 24 (λv ai=>v= μ c/\ai=G)
 case first=>
  cases ok with
  | false=>
   go_wp2;go_meet;exact⟨by rw[<-am.o];rfl,rfl⟩
  | true=>
   go_wp2;go_meet;exact⟨by rw[<-am.o];by_cases e:H=1<;>simp[e],rfl⟩
 case rest=>
 obtain⟨rfl,bo⟩:=hcut;obtain rfl:=bo.symm
 go_upto_if 28 with fail
 go_cut [] from 29 (λai=>qI w0 ai k {s with lanes:=qx s.lanes sub Y,book:=if c then jp s.book sub id H else s.book} ([w.heap.size]++F)/\qw ([w.heap.size]++F) G ai)
 case first=>
  cases c with
  | false=>
   go_wp2;go_meet;exact⟨aC.o,qw.refl _ _⟩
  | true=>
   have bh:=κ (aq.o.blk η ab.o);obtain⟨bv,bA,bE,O⟩:=aC.o;have ad:=κ O;have bs:k.R≠k.b:=λe=>by
    obtain⟨_,d,_⟩:=O.all .book;rw[<-e,(O.all .room).1] at d;cases d
   have bt:w.heap.size≠k.b:=λe=>by
    obtain⟨_,d,_⟩:=O.all .book;rw[<-e,(O.law (w.heap.size) η).1] at d;cases d
   have aj:=λ(x:qz (λb=>b=k.b) G)=>β0 (x.h.blk ad.o.blk bs)
   have ak:=λ(x:qz (λb=>b=k.b) G)=>β1 (x.h.blk bh.o bt)
   clear O
   go_upto_region 4 with fail
   refine QN (λb=>b=k.b) G 9 9 [8] ?_
   refine Qs8 ?_
   (refine Ql ?_;intro K J)
   go_call gI (ad.o.on (qa.drewN G 1)).bok sub id H as e w4 ⟨rfl,aK,a4⟩;obtain⟨ah,t4⟩:=(ad.o.on (qa.drewN G 1)).book aK a4;have be:=κ ah;have ag:Hid (qw ([w.heap.size]++F) G w4):=κ ((ad.o.at.stay (qa.drewN G 1)).trans t4);have aY:Hid (qg (λb=>b=k.b) G w4):=κ (((qg.refl _ _).drewN 1).trans a4);clear aK a4 ah t4;refine⟨_,rfl,qi aY.o,J _ _ ?_⟩;clear J K;refine qA ?_;go_wp2;go_meet;exact⟨be.o,ag.o⟩
 case rest=>
 obtain⟨ah,t4⟩:=hcut;rename_i w4;have bi:=κ ((aq.o.trans t4).blk η ab.o);have ag:=κ (aH.o.trans ((aq.o.trans t4).sub (F':=F) (λb d=>List.mem_append_right _ d)));obtain⟨bw,bB,bF,aB⟩:=ah;have ae:=κ aB;obtain⟨bu,az,aS⟩:=aB.laneAt (x:=sub) (l:=Y) (xD _ _ _);obtain rfl:bu=p:=by rw[an.o] at az;injection az with e;exact e.symm
 have al:=κ (JB aS);clear aB az aS t4;obtain⟨ar,ax⟩:=ν (Y.gone);rw[ax] at al;have bk:=κ ax;clear ax;have aF:Hid (s.write sub acc={s with lanes:=qx s.lanes sub Y,tab:=if ar then (zM s.tab sub).1 else s.tab,book:=if ar then vM (if c then jp s.book sub id H else s.book) sub 7 else if c then jp s.book sub id H else s.book}):=κ (by unfold RmS.write;rw[aG.o];simp only[bm.o];rw[am.o,bk.o]);cases ar with
 | false=>
  go_wp2_with (go_at_call 69;(go_call al.o as e w6 ⟨rfl,N⟩;have af:=κ N;clear N))
  (refine bodyPost_end (v:= .tuple #[]) ?re1 rfl ?_;(case re1=>simp[results,results83,go_sem]))
  exact⟨rfl,by rw[aF.o];exact(ae.o.on af.o).at.sub (λb d=>List.mem_append_right _ d),ag.o.trans ((ae.o.at.stay af.o).sub (λb d=>List.mem_append_right _ d))⟩
 | true=>
  go_upto_region 6 with (go_at_call 69;(go_call al.o as e w6 ⟨rfl,N⟩;have af:=κ N;have M:=κ (ae.o.on N);have aD:=κ (qc N bi.o);clear N))
  have aU:k.R≠k.b:=λe=>by
   obtain⟨_,d,_⟩:=M.o.all .book;rw[<-e,(M.o.all .room).1] at d;cases d
  have aV:w.heap.size≠k.b:=λe=>by
   obtain⟨_,d,_⟩:=M.o.all .book;rw[<-e,(M.o.law (w.heap.size) η).1] at d;cases d
  have aj:=λ(x:qz (λb=>b=k.b) w6)=>β0 (x.h.blk M.o.blk aU)
  have ak:=λ(x:qz (λb=>b=k.b) w6)=>β1 (x.h.blk aD.o aV)
  refine QN (λb=>b=k.b) w6 8 8 [7] ?_
  refine Qs7 ?_
  (refine Ql ?_;intro K J)
  go_call LJ (M.o.on (qa.drewN w6 1)).at sub (by have:=Kd s.book sub id H;cases c<;>simp<;>omega) as e I ⟨⟨v7,rfl⟩,aO,aW,aJ⟩;have bf:=κ aO;have aI:Hid (qw ([w.heap.size]++F) w6 I):=κ ((M.o.at.stay (qa.drewN w6 1)).trans aW);have aZ:Hid (qg (λb=>b=k.b) w6 I):=κ (((qg.refl _ _).drewN 1).trans aJ);clear aO aW aJ;refine⟨_,rfl,qi aZ.o,J _ _ ?_⟩;clear J K aj ak aU aV;refine qA ?_;have bj:=κ (aI.o.blk η aD.o);obtain⟨bx,bC,bG,U⟩:=bf.o;have ao:=κ U;have br:k.R≠k.td:=λe=>by
   obtain⟨_,_,_,d,_⟩:=U.all .table;rw[<-e,(U.all .room).1] at d;cases d
  have n2:w.heap.size≠k.td:=λe=>by
   obtain⟨_,_,_,d,_⟩:=U.all .table;rw[<-e,(U.law w.heap.size η).1] at d;cases d
  have aj:=λ(x:qz (λb=>b=k.td) I)=>β11 (x.h.blk ao.o.blk br)
  have ak:=λ(x:qz (λb=>b=k.td) I)=>β1 (x.h.blk bj.o n2)
  clear U
  go_upto_region 7 with fail
  refine QN (λb=>b=k.td) I 7 7 [6] ?_
  refine Qs6 ?_
  (refine Ql ?_;intro K J)
  go_call Lc (ao.o.on (qa.drewN I 1)).at sub as e w9 ⟨⟨v9,rfl⟩,aP,t9,a9⟩;have bg:=κ aP;have bn:Hid (qw ([w.heap.size]++F) I w9):=κ ((ao.o.at.stay (qa.drewN I 1)).trans t9);have ba:Hid (qg (λb=>b=k.td) I w9):=κ (((qg.refl _ _).drewN 1).trans a9);clear aP t9 a9;refine⟨_,rfl,qi ba.o,J _ _ ?_⟩;clear J K;refine qA ?_;go_wp2
  (refine bodyPost_end (v:= .tuple #[]) ?re2 rfl ?_;(case re2=>simp[results,results83,go_sem]))
  exact⟨rfl,by rw[aF.o];exact bg.o.sub (λb d=>List.mem_append_right _ d),ag.o.trans (((ae.o.at.stay af.o).trans (aI.o.trans bn.o)).sub (λb d=>List.mem_append_right _ d))⟩
end
end Go.Proofs.YtdgippmmaponfaaGreat
