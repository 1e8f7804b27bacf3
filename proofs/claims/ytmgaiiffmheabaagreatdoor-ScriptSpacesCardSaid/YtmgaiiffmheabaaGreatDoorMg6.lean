/- x -/
import Derived.Test.YtmgaiiffmheabaaGreatDoorMg5
import Derived.Deep.WholeRow
import Derived.Test.YtmgaiiffmheabaaGreatDoorMg2
namespace Go.Proofs.YtmgaiiffmheabaaGreatDoor
open Option renaming some->ϊ,none->ϋ
open Bool renaming true->ό,false->ύ
open Go.Value renaming bool->μ,slice->δ,pointer->π,agg->θ
open Go.IntKind renaming i64->ι,u8->υ,u16->φ,u32->ω,i32->χ,u64->ψ
open _root_.Go.Proofs.Tryz
set_option linter.all false
set_option maxHeartbeats 8000000
open Go.RowKit
set_option maxRecDepth 100000
variable {w w' wr w0 H:World} {cs Z:Array Value} {s s':RdS} {v u d a0 a3 a4:Value} {t x:Int} {E l:List Int} {R Br hi b B base G n e:Nat} {A:List Itm} {Q:Exit->Act->World->Prop} {D:Nat->Prop} {P:Program} {k:IntKind} {ops:Array Oper} {rest:List Oper} {xs:List Value} {q:Pk} {α:Type} {L:List α} {c:qQ} {o:Oper}
def Jt {t:TypeId} {I H:Value} (h:w.heap[b]? =ϊ (.cells #[a0,I,H,a3,a4] t (0,0))) (v0 d G v3 v4:Value):(((((w.setCell ⟨b,0,ϋ⟩ v0).setCell ⟨b,1,ϋ⟩ d).setCell ⟨b,2,ϋ⟩ G).setCell ⟨b,3,ϋ⟩ v3).setCell ⟨b,4,ϋ⟩ v4).heap[b]? =ϊ (.cells #[v0,d,G,v3,v4] t (0,0)):=by
 have h:=qB (cs':= #[v0,I,H,a3,a4]) (qp h 0 v0) rfl;have h:=qB (cs':= #[v0,d,H,a3,a4]) (qp h 1 d) rfl;have h:=qB (cs':= #[v0,d,G,a3,a4]) (qp h 2 G) rfl;have h:=qB (cs':= #[v0,d,G,v3,a4]) (qp h 3 v3) rfl;exact qB (qp h 4 v4) rfl
def jt.st5 (w:World) (b:Nat) (v0 d G v3 v4:Value):jt (λk=>k=b) w (((((w.setCell ⟨b,0,ϋ⟩ v0).setCell ⟨b,1,ϋ⟩ d).setCell ⟨b,2,ϋ⟩ G).setCell ⟨b,3,ϋ⟩ v3).setCell ⟨b,4,ϋ⟩ v4):=((((((jt.refl (λk=>k=b) w).cons 0 v0).cons 1 d).cons 2 G).cons 3 v3).cons 4 v4)
def kG {t:TypeId} {G:Value} (h:w.heap[b]? =ϊ (.cells #[a0,d,G,a3,a4] t (0,0))):
  w.cell? ⟨b,0,ϋ⟩=ϊ a0/\w.cell? ⟨b,1,ϋ⟩=ϊ d/\w.cell? ⟨b,2,ϋ⟩=ϊ G/\w.cell? ⟨b,3,ϋ⟩=ϊ a3/\w.cell? ⟨b,4,ϋ⟩=ϊ a4:=
 ⟨qa h 0 rfl,qa h 1 rfl,qa h 2 rfl,qa h 3 rfl,qa h 4 rfl⟩
def Ws {t:TypeId} (h:w.heap[b]? =ϊ (.cells cs t (0,0))):
  w.frozen? ⟨b,0,ϋ⟩=ύ/\w.frozen? ⟨b,1,ϋ⟩=ύ/\w.frozen? ⟨b,2,ϋ⟩=ύ/\w.frozen? ⟨b,3,ϋ⟩=ύ/\w.frozen? ⟨b,4,ϋ⟩=ύ:=
 ⟨yw h 0,yw h 1,yw h 2,yw h 3,yw h 4⟩
def Ju {S:Nat->Prop} {l:List (Int×Int)} (h:SlP 2 Vf w v l) (J: ∀b,v.ownBlock=ϊ b-> ¬S b) (a:jt S w w'):SlP 2 Vf w' v l:=by
 obtain⟨aa,cap,rfl,G,H,I⟩:=h;refine⟨aa,cap,rfl,G,λi hi=> ?_,I⟩;obtain⟨b,off,cs,rfl,d,U,N,Y⟩:=H i hi;exact⟨b,off,cs,rfl,ϗ d a.size,U,λj O=>by rw[a.cells b _ d (J b rfl)];exact N j O,Y⟩
structure MdJ (w0 w:World) (R Bm:Nat) (C:Nat->Prop) (o0 o1:Obj) (cs:Array Value) (s:RdS):Prop where
 rd:qu w R s.1 s.2 C
 b0:w.heap[w0.heap.size]? =ϊ o0
 b1:w.heap[w0.heap.size+1]? =ϊ o1
 bm:w.heap[Bm]? =ϊ (.cells cs 137 (0,0))
 more:ql w0 w
 h1:w0.heap.size+1<Bm
 h2:Bm<R
 hC: ∀g,C g->Bm<g
section
variable {w0 w w':World} {R Bm:Nat} {C:Nat->Prop} {o0 o1:Obj} {cs:Array Value} {s s':RdS}
def MdJ.read (h:MdJ w0 w R Bm C o0 o1 cs s) (r:qu w' R s'.1 s'.2 C) (a:jt (λb=>b=R) w w'):MdJ w0 w' R Bm C o0 o1 cs s':=by
 have h1:=h.h1;have h2:=h.h2;exact⟨r,a.blk h.b0 τ,a.blk h.b1 τ,a.blk h.bm τ,Jv a h.more τ,h1,h2,h.hC⟩
def MdJ.set (h:MdJ w0 w R Bm C o0 o1 cs s) (i:Nat) (x:Value):MdJ w0 (w.setCell ⟨Bm,i,ϋ⟩ x) R Bm C o0 o1 (cs.setIfInBounds i x) s:=by
 have h1:=h.h1;have h2:=h.h2;have a:jt (λb=>b=Bm) w (w.setCell ⟨Bm,i,ϋ⟩ x):=(jt.refl (λb=>b=Bm) w).set (p:=⟨Bm,i,ϋ⟩) rfl x;exact⟨h.rd.off a τ (λg d e=>by have:=h.hC g d;omega),a.blk h.b0 τ,a.blk h.b1 τ,qp h.bm i x,jt.to_more h.more a (λk G=>by omega),h1,h2,h.hC⟩
def MdJ.eq {cs':Array Value} (h:MdJ w0 w R Bm C o0 o1 cs s) (e:cs=cs'):MdJ w0 w R Bm C o0 o1 cs' s:=e▸h
end
def Er (a b:Int) (s:RdS):vD 1 a b s=vX ⟨1,a,b,[],[]⟩ s:=by unfold vD;rw[Ϗ ζ,Ϗ ζ]
def Eq (a b:Int) (s:RdS):vD 2 a b s=vX ⟨2,a,b,(jm s.1.length [] (zz b s)).1,[]⟩ (jm s.1.length [] (zz b s)).2:=by unfold vD;rw[ϓ rfl]
def Ep (a b:Int) (s:RdS):vD 3 a b s=vX ⟨3,a,b,[],(jc s.1.length [] (xK s)).1⟩ (jc s.1.length [] (xK s)).2:=by unfold vD;rw[Ϗ ζ,ϓ rfl]
def Z3 (b:Int) (s:RdS):(zz b s).1.length<=s.1.length:=by
 unfold zz;split
 ·exact vH s 2
 ·exact ϔ _
def uK: ∀(n m:Nat) (acc:List (Int×Int)) (s:RdS),s.1.length<=n->n<=m->jm m acc s=jm n acc s
 | 0,m,acc,s,h,_=>by
  obtain⟨l,e⟩:=s;obtain rfl:l=[]:=Ϡ (by simpa using h);rw[zE];rfl
 | n+1,m,acc,s,h,hm=>by
  obtain⟨m,rfl⟩: ∃k,m=k+1:=⟨m-1,τ⟩;by_cases hs:s.1=[]
  ·obtain⟨l,e⟩:=s;simp only at hs;subst hs;rw[zE,zE]
  ·rw[yg hs,yg hs];exact uK n m _ _ (by have:=Xo hs;omega) τ
def Dt (n t:Int) (B:List Int) (G:Option Addr) (d:Nat) (ad:Hid (SlI .u8 w (δ G B.length d) B)) (ae:B.length<=1000000) (aa:Hid (jx (n,t,B,())=ύ)):
  Calls prog 266 #[θ #[υ n,υ t,δ G B.length d]] w λe w'=>e= .returned (.tuple #[Γg,ι 1])/\ql w w':=by
 have ab:=κ (xR (w:=(w.alloc (.cells #[υ n,υ t,δ G B.length d] 145)).alloc (.cells Γg 137)) (n,t,B,()) (ad.o.keep (X6.al _)) ae);have Y:=κ (qC (w:=w.alloc (.cells #[υ n,υ t,δ G B.length d] 145)) (n:=w.heap.size+1) (o:=(.cells Γg 137)) η)
 go_enter func266,ntmps266
 go_wp2_with (go_at_call 142;(go_call ab.o as e U ⟨rfl,I⟩;rw[aa.o];have H:=κ (qq I Y.o);have ac:=κ (((ql.alloc w (.cells #[υ n,υ t,δ G B.length d] 145)).al (.cells Γg 137)).trans I);clear I;obtain⟨aq,ar,au,av,aw⟩:=kG H.o;obtain⟨ak,am,an,ao,ap⟩:=Ws H.o))
 have J:=Jt H.o (ι 0) (ω 0) (ω 0) (δ ϋ 0 0) (δ ϋ 0 0);have a5:=jt.st5 U (w.heap.size+1) (ι 0) (ω 0) (ω 0) (δ ϋ 0 0) (δ ϋ 0 0);have O:=jt.to_more ac.o a5 (λb e=>by omega);obtain⟨WF,N⟩:=ν ((((((U.setCell ⟨w.heap.size+1,0,ϋ⟩ (ι 0)).setCell ⟨w.heap.size+1,1,ϋ⟩ (ω 0)).setCell ⟨w.heap.size+1,2,ϋ⟩ (ω 0)).setCell ⟨w.heap.size+1,3,ϋ⟩ (δ ϋ 0 0)).setCell ⟨w.heap.size+1,4,ϋ⟩ (δ ϋ 0 0)));rw[N] at J O ⊢ a5;clear N;obtain⟨af,ag,ah,ai,aj⟩:=kG J
 (refine bodyPost_ret (v:= .tuple #[Γg,ι 1]) ?rr1 rfl ?_;(case rr1=>(simp[results,results266,go_sem,af,ag,ah,ai,aj])))
 exact⟨rfl,O⟩
def KA (n t:Int) (B:List Int) (G:Option Addr) (d:Nat) (ai:Hid (SlI .u8 w (δ G B.length d) B)) (aj:B.length<=1000000) (ae:Hid (jx (n,t,B,())=ό)) (ad:Hid (zy (n,t,B,())=0)):
  Calls prog 266 #[θ #[υ n,υ t,δ G B.length d]] w λe w'=>e= .returned (.tuple #[Γg,ι 5])/\ql w w':=by
 have af:=κ (xR (w:=(w.alloc (.cells #[υ n,υ t,δ G B.length d] 145)).alloc (.cells Γg 137)) (n,t,B,()) (ai.o.keep (X6.al _)) aj);have aa:=κ (qs (qj w (.cells #[υ n,υ t,δ G B.length d] 145)) (.cells Γg 137));have ab:=κ (qC (w:=w.alloc (.cells #[υ n,υ t,δ G B.length d] 145)) (n:=w.heap.size+1) (o:=(.cells Γg 137)) η)
 go_enter func266,ntmps266
 go_wp2_with (first | (go_at_call 142;(go_call af.o as e aF ⟨rfl,H⟩;rw[ae.o];have I:=κ (qq H aa.o);have ac:=κ (qq H ab.o);have ag:=κ (((ql.alloc w (.cells #[υ n,υ t,δ G B.length d] 145)).al (.cells Γg 137)).trans H);clear H;have aq:=β0 I.o;have ar:=β1 I.o;have au:=β2 I.o)) | (go_at_call 300;(go_call XN n t B G d _ as e w4 ⟨rfl,N⟩;rw[ad.o];have J:=κ (qs (qq N ac.o) (.cells Γg 137));have ah:=κ ((ag.o.trans N).al (.cells Γg 137));clear N aq ar au;obtain⟨aA,aB,aC,aD,aE⟩:=kG J.o;obtain⟨av,aw,ax,ay,az⟩:=Ws J.o)))
 generalize w4.alloc (.cells Γg 137)=w5 at *;have O:=Jt J.o (ι 0) (ω 0) (ω 0) (δ ϋ 0 0) (δ ϋ 0 0);have a5:=jt.st5 w5 (w.heap.size+1) (ι 0) (ω 0) (ω 0) (δ ϋ 0 0) (δ ϋ 0 0);have Y:=jt.to_more ah.o a5 (λb e=>by omega);obtain⟨WF,U⟩:=ν ((((((w5.setCell ⟨w.heap.size+1,0,ϋ⟩ (ι 0)).setCell ⟨w.heap.size+1,1,ϋ⟩ (ω 0)).setCell ⟨w.heap.size+1,2,ϋ⟩ (ω 0)).setCell ⟨w.heap.size+1,3,ϋ⟩ (δ ϋ 0 0)).setCell ⟨w.heap.size+1,4,ϋ⟩ (δ ϋ 0 0)));rw[U] at O Y ⊢ a5;clear U;obtain⟨ak,am,an,ao,ap⟩:=kG O
 (refine bodyPost_ret (v:= .tuple #[Γg,ι 5]) ?rr2 rfl ?_;(case rr2=>(simp[results,results266,go_sem,ak,am,an,ao,ap])))
 exact⟨rfl,Y⟩
def Cz (n t k:Int) (bA:k=1∨k=2∨k=3) (B:List Int) (ai:Option Addr) (ad:Nat) (D:Msg×Int) (bp:Hid (SlI .u8 w (δ ai B.length ad) B)) (bf:Hid (Byt B)) (bB:B.length<=1000000) (bS:Hid (jx (n,t,B,())=ό)) (bP:Hid (zy (n,t,B,())=k))
  (bg:Hid (vD k (xP (B,0)) (xP (tkS (B,0) 4)) (tkS (tkS (B,0) 4) 4)=D)):
  Calls prog 266 #[θ #[υ n,υ t,δ ai B.length ad]] w λe w'=>(∃va vl,e= .returned (.tuple #[θ #[ι D.1.kind,ω D.1.snd,ω D.1.med,va,vl],ι D.2])/\DG w' va vl D.1/\jX w va/\jX w vl)/\ql w w':=by
 have bj:=κ (xR (w:=(w.alloc (.cells #[υ n,υ t,δ ai B.length ad] 145)).alloc (.cells Γg 137)) (n,t,B,()) (bp.o.keep (X6.al _)) bB);have bb:=κ (qs (qj w (.cells #[υ n,υ t,δ ai B.length ad] 145)) (.cells Γg 137));have bc:=κ (qC (w:=w.alloc (.cells #[υ n,υ t,δ ai B.length ad] 145)) (n:=w.heap.size+1) (o:=(.cells Γg 137)) η);obtain⟨ak,aP⟩: ∃x,num (tkB B 4)=x:=⟨_,rfl⟩;obtain⟨G,aE⟩: ∃x,num (tkB (tkS (B,0) 4).1 4)=x:=⟨_,rfl⟩;obtain⟨d,aQ⟩: ∃x,tkS (tkS (B,0) 4) 4=x:=⟨_,rfl⟩;have bM:Hid (vD k ak G d=D):=κ (by rw[<-aP,<-aE,<-aQ];exact bg.o);have bh:=κ aP;have bi:=κ aE;have bk:=κ aQ;have cr:0<=G:=by
  have:=Jx (s:=tkS (B,0) 4) (jK (s:=(B,0)) bf.o 4);rw[<-aE];exact this.1
 clear aP aE aQ bg;have cq: ¬k=0:=by omega
 have bQ:=κ bA;clear bA
 go_enter func266,ntmps266
 go_upto_region 9 with (first | (go_at_call 142;(go_call bj.o as e cA ⟨rfl,aF⟩;rw[bS.o];have au:=κ (qq aF bb.o);have aH:=κ (qq aF bc.o);have bn:=κ (((ql.alloc w (.cells #[υ n,υ t,δ ai B.length ad] 145)).al (.cells Γg 137)).trans aF);clear aF;have cl:=β0 au.o;have cm:=β1 au.o;have ba:=β2 au.o)) | (go_at_call 300;(go_call XN n t B ai ad _ as e w4 ⟨rfl,ax⟩;rw[bP.o];have aG:=κ (qs (qq ax au.o) (.cells #[ι k,ω 0,ω 0,(),()] 137));have bd:=κ (qs (qq ax aH.o) (.cells #[ι k,ω 0,ω 0,(),()] 137));have aN:=κ ((bn.o.trans ax).al (.cells #[ι k,ω 0,ω 0,(),()] 137));have be:=κ (qj w4 (.cells #[ι k,ω 0,ω 0,(),()] 137));have bw:=κ (ϗ (qn aH.o) ax.size);clear ax cl cm ba;have ba:=β2 aG.o)) | (go_at_call 154;(go_call NV _ B _ (bp.o.keep aN.o) bf.o bB as e w6 ⟨R,rfl,bz,bG,ay⟩;have aL:Hid (MdJ w w6 R w4.heap.size (λg=>(w4.alloc (.cells #[ι k,ω 0,ω 0,(),()] 137)).heap.size<=g/\g<w6.heap.size) (.cells #[υ n,υ t,δ ai B.length ad] 145) (.cells Γg 137) #[ι k,ω 0,ω 0,(),()] (B,0)):=κ ⟨bG,qq ay aG.o,qq ay bd.o,qq ay be.o,aN.o.trans ay,bw.o,by (have:=bz;simp at this;omega),λg h=>by (have:=h.1;simp at this;omega)⟩;clear bz bG ay ba)) | (go_at_call 157;((with_reducible refine(jD aL.o.rd).mono ?_);rintro e w7 ⟨rfl,bH,br⟩;rw[bh.o];have aC:=κ (aL.o.read (s':=tkS (B,0) 4) bH br);clear bH br;have cj:=β1 aC.o.bm;have cn:=yw aC.o.bm 1;have aM:=κ (aC.o.set 1 (ω ak)))) | (go_at_call 157;((with_reducible refine(jD aM.o.rd).mono ?_);rintro e w8 ⟨rfl,bI,bs⟩;rw[bi.o];have aD:=κ (aM.o.read (s':=tkS (tkS (B,0) 4) 4) bI bs);clear bI bs cj cn;have aU:=β2 aD.o.bm;have co:=yw aD.o.bm 2;have H:=κ ((aD.o.set 2 (ω G)).eq (cs':= #[ι k,ω ak,ω G,(),()]) rfl);have bE:=β0 H.o.bm)))
 rw[bk.o] at H;generalize ch:(λg=>(w4.alloc (.cells #[ι k,ω 0,ω 0,(),()] 137)).heap.size<=g/\g<w6.heap.size)=C at *;clear ch bb bc au aH bn aG bd aN be aL aC aM aD bj bh bi bk aU co bw;generalize w4.heap.size=Bm at *;generalize w8.setCell ⟨Bm,2,ϋ⟩ (ω G)=w9 at *;have bE:=β0 H.o.bm
 go_upto_block 0 with fail
 go_cut [] from 27 to 62 (λar=> ∃(ah aj:Option Addr) (af ag ac ae:Nat) (S:RdS) (m:Msg),MdJ w ar R Bm C (.cells #[υ n,υ t,δ ai B.length ad] 145) (.cells Γg 137) #[ι k,ω ak,ω G,δ ah af ac,δ aj ag ae] S/\vD k ak G d=vX m S/\(m.kind=k/\m.snd=ak/\m.med=G)/\DG ar (δ ah af ac) (δ aj ag ae) m/\(jX w (δ ah af ac)/\jX w (δ aj ag ae))/\ ∀b,((δ ah af ac).ownBlock=ϊ b∨(δ aj ag ae).ownBlock=ϊ b)-> ¬b=w.heap.size+1)
 case first=>
  rcases bQ.o with rfl | rfl | rfl
  ·go_wp2;go_meet;exact⟨_,_,_,_,_,_,d,_,H.o,Er _ _ _,⟨rfl,rfl,rfl⟩,⟨SlP.nil _ _ _,SlI.nil _ _⟩,⟨jX.nil w,jX.nil w⟩,λb h=>by rcases h with h | h<;>cases h⟩
  ·have aU:=β2 H.o.bm
   go_upto_region 11 with fail
   obtain⟨Q,bx⟩: ∃Q:Bool,Q=decide (¬G=0∨d.1.length=0∨ ¬d.1.length%8=0):=⟨_,rfl⟩;have ao:=κ bx;clear bx
   go_cut [44] from 31 to 43 (λv ar=>v= μ Q/\w9=ar)
   case first=>
    by_cases c1:G=0
    ·have bm:(G != 0)=ύ:=by simpa using c1
     by_cases c2:d.1.length=0
     ·have bV:((d.1.length:Int)==0)=ό:=eqB τ;have U:Hid (ό=Q):=κ (by rw[ao.o];exact(ϻ (ϕ (ϑ c2))).symm);clear c1 c2
      go_wp2_with (go_at_call 160;(go_call yd H.o.rd as e w10 ⟨rfl,rfl⟩))
      go_meet;rw[<-U.o];exact⟨rfl,rfl⟩
     ·have bV:((d.1.length:Int)==0)=ύ:=neB τ;by_cases c3:d.1.length%8=0
      ·have bW:((d.1.length:Int)%8 != 0)=ύ:=by simp;omega
       have U:Hid (ύ=Q):=κ (by rw[ao.o];exact(ϯ (by rintro(h | h | h);exact h c1;exact c2 h;exact h c3)).symm);clear c1 c2 c3
       go_wp2_with (go_at_call 160;(go_call yd H.o.rd as e w10 ⟨rfl,rfl⟩))
       go_meet;rw[<-U.o];exact⟨rfl,rfl⟩
      ·have bW:((d.1.length:Int)%8 != 0)=ό:=by simp;omega
       have U:Hid (ό=Q):=κ (by rw[ao.o];exact(ϻ (ϕ (ϕ c3))).symm);clear c1 c2 c3
       go_wp2_with (go_at_call 160;(go_call yd H.o.rd as e w10 ⟨rfl,rfl⟩))
       go_meet;rw[<-U.o];exact⟨rfl,rfl⟩
    ·have bm:(G != 0)=ό:=by simpa using c1
     have U:Hid (ό=Q):=κ (by rw[ao.o];exact(ϻ (ϑ c1)).symm);clear c1
     go_wp2_with (go_at_call 160;(go_call yd H.o.rd as e w10 ⟨rfl,rfl⟩))
     go_meet;rw[<-U.o];exact⟨rfl,rfl⟩
   case rest=>
   obtain⟨rfl,rfl⟩:=hcut
   go_upto_if 44 with fail
   go_cut [] from 45 to 46 (λar=>MdJ w ar R Bm C (.cells #[υ n,υ t,δ ai B.length ad] 145) (.cells Γg 137) #[ι 2,ω ak,ω G,(),()] (zz G d))
   case first=>
    have bT:=κ (zo (s:=d) H.o.rd 2);cases Q with
    | true=>
     have U:Hid (zz G d=wrS d 2):=κ (by unfold zz;rw[ϓ (Ϧ ao.o.symm)])
     go_wp2_with (first | (go_at_call 158;(go_call bT.o as e cz ⟨rfl,bF,bq⟩;have bU:=κ (H.o.read (s':=wrS d 2) bF bq);clear bF bq)))
     go_meet;rw[U.o];exact bU.o
    | false=>
     have U:Hid (zz G d=d):=κ (by unfold zz;rw[Ϗ (D8 ao.o.symm)]);go_wp2;go_meet;rw[U.o];exact H.o
   case rest=>
   have aq:=κ hcut;clear hcut H aU ao;have bR:=κ (Z3 G d);have ci:R<wc.heap.size:=by obtain⟨v,aO,_⟩:=aq.o.rd.blk;exact qn aO
   go_wp2_with (go_at_call 301;(go_call Y7 (s0:=zz G d) aq.o.rd ci as e aA ⟨ck,rfl,aa⟩;have ab:=κ aa;have ap:=κ (aq.o.read (s':=(jm (zz G d).1.length [] (zz G d)).2) (aa.rd.mono (λg h=>h.1)) aa.away);obtain⟨O,N,J,rfl,aS,aT⟩:=aa.row.shape;clear aS aT aa;have cx:=β3 ap.o.bm;have z3:=yw ap.o.bm 3;have I:=κ ((ap.o.set 3 (δ O N J)).eq (cs':= #[ι 2,ω ak,ω G,δ O N J,()]) rfl)))
   have aK:Hid (SlP 2 Vf (aA.setCell ⟨Bm,3,ϋ⟩ (δ O N J)) (δ O N J) (jm (zz G d).1.length [] (zz G d)).1):=κ (Ju (ab.o.row.sl ζ) (λb Y e=>by have:=ab.o.row.ge Y;have:=qn aq.o.bm;omega) ((jt.refl (λb=>b=Bm) aA).set (p:=⟨Bm,3,ϋ⟩) rfl _));have aJ:Hid (∀b,(δ O N J).ownBlock=ϊ b-> ¬b=w.heap.size+1):=κ (λb Y e=>by have:=ab.o.row.ge Y;have:=qn aq.o.b1;omega);have aI:Hid (jX w (δ O N J)):=κ (λb Y=>by have:=ab.o.row.ge Y;have:=qn aq.o.b1;omega);have bO:=κ (uK (zz G d).1.length d.1.length [] (zz G d) (ϔ _) bR.o);go_meet;exact⟨_,_,_,_,_,_,_,_,I.o,(by rw[Eq,bO.o]),⟨rfl,rfl,rfl⟩,⟨aK.o,SlI.nil _ _⟩,⟨aI.o,jX.nil w⟩,λb h=>by rcases h with h | h;exact aJ.o b h;cases h⟩
  ·go_wp2_with (go_at_call 302;(go_call Y6 (s0:=d) H.o.rd (by obtain⟨v,aO,_⟩:=H.o.rd.blk;exact qn aO) as e aA ⟨ck,rfl,aa⟩;have ab:=κ aa;have ap:=κ (H.o.read (s':=(jc d.1.length [] (xK d)).2) (aa.rd.mono (λg h=>h.1)) aa.away);obtain⟨O,N,J,rfl,aS,aT⟩:=qfO aa.row;clear aS aT aa;have cy:=β4 ap.o.bm;have z4:=yw ap.o.bm 4;have I:=κ ((ap.o.set 4 (δ O N J)).eq (cs':= #[ι 3,ω ak,ω G,(),δ O N J]) rfl)))
   have aK:Hid (SlI .u16 (aA.setCell ⟨Bm,4,ϋ⟩ (δ O N J)) (δ O N J) (jc d.1.length [] (xK d)).1):=κ (SlI.off (SlI.of_owns ab.o.row (Ma ab.o.row)) (λb Y e=>by have:=jG ab.o.row Y;have:=qn H.o.bm;omega) ((jt.refl (λb=>b=Bm) aA).set (p:=⟨Bm,4,ϋ⟩) rfl _));have aJ:Hid (∀b,(δ O N J).ownBlock=ϊ b-> ¬b=w.heap.size+1):=κ (λb Y e=>by have:=jG ab.o.row Y;have:=qn H.o.b1;omega);have aI:Hid (jX w (δ O N J)):=κ (λb Y=>by have:=jG ab.o.row Y;have:=qn H.o.b1;omega);go_meet;exact⟨_,_,_,_,_,_,_,_,I.o,(by rw[Ep]),⟨rfl,rfl,rfl⟩,⟨SlP.nil _ _ _,aK.o⟩,⟨jX.nil w,aI.o⟩,λb h=>by rcases h with h | h;cases h;exact aJ.o b h⟩
 case rest=>
 obtain⟨ah,aj,af,ag,ac,ae,S,m,bD,bt,⟨rfl,rfl,rfl⟩,bJ,⟨bu,bv⟩,bC⟩:=hcut;have I:=κ bD;have bo:=κ bJ;have bK:=κ bu;have bL:=κ bv;have bl:=κ bC;have am:=bM.o;rw[bt] at am;unfold vX at am;clear bD bt bJ bu bv bC H bE;by_cases he:wM S=0
 ·rw[ϓ he] at am;have an:=κ am;have bN:=κ he;obtain⟨ct,cu,p2,cv,cw⟩:=kG I.o.bm;obtain⟨cc,cd,ce,cf,cg⟩:=kG I.o.b1;obtain⟨bX,bY,bZ,ca,cb⟩:=Ws I.o.b1;clear am he
  go_wp2_with (go_at_call 162;(go_call JD (s:=S) I.o.rd as e aB ⟨rfl,aR⟩;subst aR;rw[bN.o]))
  have av:=Jt I.o.b1 (ι m.kind) (ω m.snd) (ω m.med) (δ ah af ac) (δ aj ag ae);have a5:=jt.st5 aB (w.heap.size+1) (ι m.kind) (ω m.snd) (ω m.med) (δ ah af ac) (δ aj ag ae);have az:=jt.to_more I.o.more a5 (λb e=>by omega);obtain⟨WF,aw⟩:=ν ((((((aB.setCell ⟨w.heap.size+1,0,ϋ⟩ (ι m.kind)).setCell ⟨w.heap.size+1,1,ϋ⟩ (ω m.snd)).setCell ⟨w.heap.size+1,2,ϋ⟩ (ω m.med)).setCell ⟨w.heap.size+1,3,ϋ⟩ (δ ah af ac)).setCell ⟨w.heap.size+1,4,ϋ⟩ (δ aj ag ae)));rw[aw] at av az ⊢ a5;clear aw;obtain⟨aV,aW,aX,aY,aZ⟩:=kG av
  (refine bodyPost_ret (v:= .tuple #[θ #[ι m.kind,ω m.snd,ω m.med,δ ah af ac,δ aj ag ae],ι 0]) ?rr3 rfl ?_;(case rr3=>(simp[results,results266,go_sem,aV,aW,aX,aY,aZ])))
  refine⟨⟨δ ah af ac,δ aj ag ae,by first | (rw[<-an.o];done) | (rw[<-an.o];rfl), ?_⟩,az⟩;rw[<-an.o];exact⟨⟨Ju bo.o.asks (λb h=>bl.o b (ϑ h)) a5,SlI.off bo.o.lost (λb h=>bl.o b (ϕ h)) a5⟩,bK.o,bL.o⟩
 ·rw[Ϗ he] at am;have an:=κ am;have cp:(wM S != 0)=ό:=by simpa using he
  obtain⟨cc,cd,ce,cf,cg⟩:=kG I.o.b1;obtain⟨bX,bY,bZ,ca,cb⟩:=Ws I.o.b1;clear am he
  go_wp2_with (go_at_call 162;(go_call JD (s:=S) I.o.rd as e aB ⟨rfl,aR⟩;subst aR))
  have av:=Jt I.o.b1 (ι 0) (ω 0) (ω 0) (δ ϋ 0 0) (δ ϋ 0 0);have a5:=jt.st5 aB (w.heap.size+1) (ι 0) (ω 0) (ω 0) (δ ϋ 0 0) (δ ϋ 0 0);have az:=jt.to_more I.o.more a5 (λb e=>by omega);obtain⟨WF,aw⟩:=ν ((((((aB.setCell ⟨w.heap.size+1,0,ϋ⟩ (ι 0)).setCell ⟨w.heap.size+1,1,ϋ⟩ (ω 0)).setCell ⟨w.heap.size+1,2,ϋ⟩ (ω 0)).setCell ⟨w.heap.size+1,3,ϋ⟩ (δ ϋ 0 0)).setCell ⟨w.heap.size+1,4,ϋ⟩ (δ ϋ 0 0)));rw[aw] at av az ⊢ a5;clear aw;obtain⟨aV,aW,aX,aY,aZ⟩:=kG av
  (refine bodyPost_ret (v:= .tuple #[Γg,ι (wM S)]) ?rr4 rfl ?_;(case rr4=>(simp[results,results266,go_sem,aV,aW,aX,aY,aZ])))
  refine⟨⟨δ ϋ 0 0,δ ϋ 0 0,by first | (rw[<-an.o];done) | (rw[<-an.o];rfl), ?_⟩,az⟩;rw[<-an.o];exact⟨⟨SlP.nil _ _ _,SlI.nil _ _⟩,jX.nil w,jX.nil w⟩
def Wd {vb:Value} (c:qQ) (O:SlI .u8 w vb c.2.2.1) (Y:xk c) (J:c.2.2.1.length<=1000000):
  Calls prog 266 #[θ #[υ c.1,υ c.2.1,vb]] w λe w'=>(∃va vl,e= .returned (.tuple #[θ #[ι (qJ c).1.kind,ω (qJ c).1.snd,ω (qJ c).1.med,va,vl],ι (qJ c).2])/\DG w' va vl (qJ c).1/\jX w va/\jX w vl)/\ql w w':=by
 obtain⟨n,t,B,⟨⟩⟩:=c;obtain⟨_,_,U⟩:=Y;simp only at *;have d:=κ O;obtain⟨N,G,rfl,_⟩:=O;cases hr:jx (n,t,B,()) with
 | false=>
  have e:qJ (n,t,B,())=(JI,1):=by unfold qJ;rw[ϓ hr]
  rw[e];exact(Dt n t B N G d J (κ hr)).mono λe w' ⟨H,I⟩=>⟨⟨_,_,H,⟨SlP.nil _ _ _,SlI.nil _ _⟩,jX.nil w,jX.nil w⟩,I⟩
 | true=>
  by_cases h0:zy (n,t,B,())=0
  ·have e:qJ (n,t,B,())=(JI,5):=by unfold qJ;rw[Ϗ (by rw[hr];simp),ϓ h0]
   rw[e];exact(KA n t B N G d J (κ hr) (κ h0)).mono λe w' ⟨H,I⟩=>⟨⟨_,_,H,⟨SlP.nil _ _ _,SlI.nil _ _⟩,jX.nil w,jX.nil w⟩,I⟩
  ·have e:qJ (n,t,B,())=vD (zy (n,t,B,())) (xP (B,0)) (xP (tkS (B,0) 4)) (tkS (tkS (B,0) 4) 4):=by unfold qJ;rw[Ϗ (by rw[hr];simp),Ϗ h0]
   rw[e];exact Cz n t _ (UP h0).2 B N G _ d (κ U) J (κ hr) (κ rfl) (κ rfl)
section
open Go.RowKit Go.Lib
structure Gq (w:World) (vb va vl vo:Value) (x:Itm):Prop where
 bl:SlP 7 Yj w vb x.rep.bl
 ms:DG w va vl x.msg
 bo:SlI .u8 w vo x.oth.2.2.1
def Hx (x:Itm) (vb va vl vo:Value):List Value:=[.int .i64 x.kind,.bool x.rep.snd,.int .u32 x.rep.src,.int .u32 x.rep.inf.sec,.int .u32 x.rep.inf.frac,.int .u32 x.rep.inf.stamp,.int .u32 x.rep.inf.pkts,.int .u32 x.rep.inf.octs,vb,.int .i64 x.msg.kind,.int .u32 x.msg.snd,.int .u32 x.msg.med,va,vl,.int .u8 x.oth.1,.int .u8 x.oth.2.1,vo]
def Qk:qL Itm:=λw cs x=> ∃vb va vl vo,cs=Hx x vb va vl vo/\Gq w vb va vl vo x/\Wu x
def Y0 {o:Nat} {cs:List Value} (h:w.rangeAt b o cs) (m:ql w w') (d:b<w.heap.size):w'.rangeAt b o cs:=λj v G=>by
 rw[m.cells b _ d];exact h j v G
def jU {a:Act} (N:o.guard=ϋ) (G:TypeId) (x y:Operand) (O:o.op= .store G x y)
  (H:World) (c d:Array Value) (Y:w=H.alloc (.cells c G)) (aa:a.eval x= γ H.heap.size) (ab:a.eval y= θ d)
  (hi:(P.info? G).map (·.size)=ϊ d.size) (U:c.size=d.size) (I:d.all (·.oneCell')=ό)
  (h:wpList P ops Q rest (a.put o.dst undef) (H.alloc (.cells d G))):wpList P ops Q (o::rest) a w:=by
 subst Y;refine wpList_plain N λK J=> ?_
 unfold Oper.wp execOp;simp only[O,aa,ab,Sem.run_bind,Sem.run_pure,Result.andThen_ok,run_storeAt_new H G c d hi U I];exact J _ _ h
def Mf {l:List Itm} (h:SlP 17 Qk w v l): ∃N cap,v= δ N l.length cap/\(l.length:Int)<=9223372036854775807/\(∀i,i<l.length-> ∃b off O G U H Y I aa J,N=ϊ ⟨b,off,ϋ⟩/\b<w.heap.size/\
  w.rangeAt b (off+i* 17) (Hx (l.getD i wL) (δ O (l.getD i wL).rep.bl.length G) (δ U (l.getD i wL).msg.asks.length H) (δ Y (l.getD i wL).msg.lost.length I) (δ aa (l.getD i wL).oth.2.2.1.length J))/\
  Gq w (δ O (l.getD i wL).rep.bl.length G) (δ U (l.getD i wL).msg.asks.length H) (δ Y (l.getD i wL).msg.lost.length I) (δ aa (l.getD i wL).oth.2.2.1.length J) (l.getD i wL))/\ ∀x∈l,Wu x:=by
 obtain⟨N,cap,ad,ae,af,aj⟩:=id h;refine⟨N,cap,ad,ae,λi hi=> ?_,Ei h (λcs y ⟨_,_,_,_,_,_,k⟩=>k)⟩;obtain⟨b,off,cs,e,ag,al,ah,vb,am,an,vo,rfl,d,ak⟩:=af i hi;have ac:l.getD i wL=l[i]:=by simp[hi]
 rw[ac];generalize l[i]=x at *;obtain⟨O,G,rfl,_⟩:=id d.bl;obtain⟨U,H,rfl,_⟩:=id d.ms.asks;obtain⟨Y,I,rfl,_⟩:=id d.ms.lost;obtain⟨aa,J,rfl,_⟩:=id d.bo;refine⟨b,off,O,G,U,H,Y,I,aa,J,e,ag,λj v ab=> ?_,d⟩;have ai:j<17:=(ϣ.1 ab).1;rw[ah j ai];exact ab
def JC {t:TypeId} {Y a5 aa ab ac a9 G H I J N O U:Value} (h:w.heap[b]? =ϊ (.cells #[a0,d,Y,a3,a4,a5,aa,ab,ac,a9,G,H,I,J,N,O,U] t (0,0))):
  (w.cell? ⟨b,0,ϋ⟩=ϊ a0/\w.cell? ⟨b,1,ϋ⟩=ϊ d/\w.cell? ⟨b,2,ϋ⟩=ϊ Y/\w.cell? ⟨b,3,ϋ⟩=ϊ a3/\w.cell? ⟨b,4,ϋ⟩=ϊ a4/\w.cell? ⟨b,5,ϋ⟩=ϊ a5/\w.cell? ⟨b,6,ϋ⟩=ϊ aa/\w.cell? ⟨b,7,ϋ⟩=ϊ ab/\w.cell? ⟨b,8,ϋ⟩=ϊ ac)/\
  (w.cell? ⟨b,9,ϋ⟩=ϊ a9/\w.cell? ⟨b,10,ϋ⟩=ϊ G/\w.cell? ⟨b,11,ϋ⟩=ϊ H/\w.cell? ⟨b,12,ϋ⟩=ϊ I/\w.cell? ⟨b,13,ϋ⟩=ϊ J)/\(w.cell? ⟨b,14,ϋ⟩=ϊ N/\w.cell? ⟨b,15,ϋ⟩=ϊ O/\w.cell? ⟨b,16,ϋ⟩=ϊ U):=
 ⟨⟨qa h 0 rfl,qa h 1 rfl,qa h 2 rfl,qa h 3 rfl,qa h 4 rfl,qa h 5 rfl,qa h 6 rfl,qa h 7 rfl,qa h 8 rfl⟩,⟨qa h 9 rfl,qa h 10 rfl,qa h 11 rfl,qa h 12 rfl,qa h 13 rfl⟩,qa h 14 rfl,qa h 15 rfl,qa h 16 rfl⟩
end
section
open Go.RowKit Go.Lib
structure CY (x:Itm):Prop where
 bl:x.rep.bl.length<=100000
 asks:x.msg.asks.length<=100000
 lost:x.msg.lost.length<=100000
 oth:x.oth.2.2.1.length<=1000000
end
section
open Go.RowKit Go.Lib
def PR {j:Nat} (h:j<l.length):l.drop j=l.getD j 0::l.drop (j+1):=by
 rw[D1 h,ϒ,ϖ h,ϰ]
def gh (l:List Int) (v:Value) (w:World) (aa:SlI .i64 w v l):
  Calls prog 141 #[v] w λe w'=>e= .returned (ι (vg l))/\w=w':=by
 obtain⟨ag,cap,rfl,ae,J,_⟩:=aa;have U:=κ J;clear J
 go_enter func141,ntmps141
 go_wp2
 go_loop [7] (λH=> ∃j:Nat,j<=l.length/\H= ι j/\vg l=vg (l.drop j)) (λH=>l.length-(intOf H).toNat)
 case atStart=>exact⟨0,τ,rfl,rfl⟩
 case round=>
  obtain⟨j,ad,rfl,N⟩:=hrel;have d:=κ N;clear N;by_cases hlt:j<l.length
  ·obtain⟨b,off,rfl,ab,ac⟩:=U.o j hlt;have I:=κ (PR hlt);have af:(j:Int)<(l.length:Int):=by omega
   generalize l.getD j 0=x at *;by_cases hx:x=0
   ·have Y:(x != 0)=ύ:=by simp[hx]
    have G:=κ hx;clear hx;go_wp2
    go_round
    case rel=>exact⟨j+1,τ,by go_num,by rw[d.o,I.o];show (if x=0 then _ else _)=_;rw[ϓ G.o]⟩
    case measure=>simp[intOf];omega
   ·have Y:(x != 0)=ό:=by simp[hx]
    have G:=κ hx;clear hx;go_wp2;go_ret;exact⟨by rw[d.o,I.o];show _=Ending.returned (ι (if x=0 then _ else _));rw[Ϗ G.o];rfl,rfl⟩
  ·obtain rfl:j=l.length:=by omega
   have O:Hid (vg l=0):=κ (by rw[d.o,List.drop_length];rfl);go_wp2;go_ret;exact⟨by rw[O.o];rfl,rfl⟩
def Ww (w:World) (v vo:Value):Prop:=jX w v∨v=vo
def SlI.off2 (h:SlI k w v l) (H:l≠[]-> ∀b,v.ownBlock=ϊ b-> ¬D b) (a:jt D w w'):SlI k w' v l:=by
 by_cases e:l=[]
 ·subst e;obtain⟨I,cap,rfl,d,J,G⟩:=h;exact⟨I,cap,rfl,d,λi hi=>by simp at hi,G⟩
 ·exact h.off (H e) a
def SlI.old (h:SlI k w v l) (H:l≠[]) (d:v.ownBlock=ϊ b):b<w.heap.size:=by
 obtain⟨U,cap,rfl,N,G,O⟩:=h;obtain⟨J,off,rfl,I,_⟩:=G 0 (B3.2 H);injection d with d
 subst d;exact I
end
section
open Go.RowKit Go.Lib
def wG: ∀(n:Nat) (acc:List (Int×Int)) (s:RdS),s.1.length<=n->(jm n acc s).1.length<=acc.length+s.1.length
 | 0,acc,s,_=>A9 _ _
 | n+1,acc,s,h=>by
  by_cases hs:s.1=[]
  ·obtain⟨l,e⟩:=s;simp only at hs;subst hs;rw[zE];exact A9 _ _
  ·rw[yg hs];have G:=Xo hs;have d:=wG n (acc++[(wu s).1]) (wu s).2 τ;rw[ώ,I1] at d;omega
def wF: ∀(n:Nat) (acc:List Int) (s:RdS),s.1.length<=n->(jc n acc s).1.length<=acc.length+17* s.1.length
 | 0,acc,s,_=>A9 _ _
 | n+1,acc,s,h=>by
  by_cases hs:s.1=[]
  ·obtain⟨l,e⟩:=s;simp only at hs;subst hs;rw[wE];exact A9 _ _
  ·rw[uJ hs];have G:=WK hs;have I:=VD acc (prS s).1 (prS s).2;have d:=wF n (acc++prN (prS s).1) (gm acc (prS s).1 (prS s).2) τ;have H:=(WM (prS s).1).2;rw[ώ] at d;omega
def Ps (s:RdS):(xK s).1.length<=s.1.length:=by
 unfold xK;split
 ·exact vH s 2
 ·exact ϔ _
def Kg (h:c.2.2.1.length<=400):(qJ c).1.asks.length<=100000/\(qJ c).1.lost.length<=100000:=by
 have H: ∀(m:Msg) (s:RdS),m.asks.length<=100000/\m.lost.length<=100000->(vX m s).1.asks.length<=100000/\(vX m s).1.lost.length<=100000:=by
  intro m s h;unfold vX;split
  ·exact h
  ·exact⟨ϫ _,ϫ _⟩
 have I:(tkS (tkS (c.2.2.1,0) 4) 4).1.length<=400:=ϙ (uN _ _) (ϙ (uN _ _) h);unfold qJ;split
 ·exact⟨ϫ _,ϫ _⟩
 ·split
  ·exact⟨ϫ _,ϫ _⟩
  ·unfold vD;generalize tkS (tkS (c.2.2.1,0) 4) 4=s at *;split
   ·have d:=Z3 (xP (tkS (c.2.2.1,0) 4)) s;have G:=wG s.1.length [] (zz (xP (tkS (c.2.2.1,0) 4)) s) d;exact H _ _ ⟨by simp only[Ϣ] at G ⊢;omega,ϫ _⟩
   ·split
    ·have d:=Ps s;have G:=wF s.1.length [] (xK s) d;exact H _ _ ⟨ϫ _,by simp only[Ϣ] at G ⊢;omega⟩
    ·exact H _ _ ⟨ϫ _,ϫ _⟩
end
section
open Go.RowKit Go.Lib
def je.other {R:qL α} {D':Nat->Prop} (h:je n R D w base e v L) (k: ∀b,D' b->D b∨w.heap.size<=b):je n R D' w base e v L:=by
 obtain⟨⟨xs,G,H⟩,I⟩:=id h;refine⟨⟨xs,G,λi hi=>(H i hi).other λb d=> ?_⟩,λb d J=> ?_⟩
 ·rcases d with d | d
  ·exact(k b d).elim (λx=>ϑ (ϑ x)) ϕ
  ·exact ϑ (ϕ d)
 ·rcases k b J with x | x
  ·exact I b d x
  ·have:=h.lt d;omega
def je.beside {R:qL α} {G:Value} (h:je n R (λb=>u.ownBlock=ϊ b) w base e v L) (g:w.grownBy w' u.ownBlock) (N:G.ownBlock=u.ownBlock∨G.ownBlock=ϊ w.heap.size):je n R (λb=>G.ownBlock=ϊ b) w' base e v L:=by
 have H:=h.other (D':=λb=>u.ownBlock=ϊ b∨w.heap.size<=b) (λb d=>d);have a:jt (λb=>u.ownBlock=ϊ b∨w.heap.size<=b) w w':=⟨g.os,g.tape,g.output,g.size,λk I J=>g.block k I (λe=>J (ϑ e.symm))⟩;refine(H.step a).other λb d=>ϑ ?_
 rcases N with e | e
 ·exact ϑ (by rw[<-e];exact d)
 ·rw[e] at d;injection d with d;exact ϕ τ
def Dd (s:SlI .u8 w d c.2.2.1) (H:xk c) (G:c.2.2.1≠[]-> ∀g,d.ownBlock=ϊ g-> ¬D g):jw yH D w [υ c.1,υ c.2.1,d] c:=
 λ_ a=>VU (s.off2 G a) H
def xl {size:Nat} (h:w.ownsRow base e size v n xs): ∃oa cap,v= δ oa n cap:=by
 rcases h.2 with ⟨rfl,d⟩ | ⟨g,cap,cur,rfl,_⟩
 ·exact⟨ϋ,0,by rw[d]⟩
 ·exact⟨_,cap,rfl⟩
structure ChJ (w wr:World) (u v:Value) (A:List qQ) (E:List Int):Prop where
 row:je 3 yH (λb=>v.ownBlock=ϊ b) wr w.heap.size 145 u A
 errs:wr.ownsRow w.heap.size 35 1 v E.length (E.map (Value.int .i64))
 more:ql w wr
def ChJ.on {A:List qQ} (h:ChJ w wr u v A E) (m:ql wr w'):ChJ w w' u v A E:=⟨h.row.on m,jE h.errs m,h.more.trans m⟩
def ChJ.put {A A':List qQ} (h:ChJ w wr u v A E) (I:je 3 yH (λb=>v.ownBlock=ϊ b) w' w.heap.size 145 d A') (g:wr.grownBy w' u.ownBlock):ChJ w w' d v A' E:=
 ⟨I,XB h.errs g (λb G e=>h.row.apart b e G),Below.grown h.more g h.more.size (λk H=>h.row.ge H)⟩
def ChJ.err {v':Value} {A:List qQ} {E':List Int} (h:ChJ w wr u v A E) (G:w'.ownsRow w.heap.size 35 1 v' E'.length (E'.map (Value.int .i64))) (g:wr.grownBy w' v.ownBlock) (H:v'.ownBlock=v.ownBlock∨v'.ownBlock=ϊ wr.heap.size):ChJ w w' u v' A E':=
 ⟨h.row.beside g H,G,Below.grown h.more g h.more.size (λk d=>jG h.errs d)⟩
end
section
open Go.RowKit Go.Lib
def If {g:Nat} {cur:Array Value} (h:w.heap[g]? =ϊ (.cells cur e (0,0))) (cs:Array Value):(w.setRow g cs).heap[g]? =ϊ (.cells cs e (0,0)):=setRow_heap w g cur cs e (0,0) h
def En (w:World) (g:Nat) (cs:Array Value):jt (λk=>k=g) w (w.setRow g cs):=by
 refine⟨rfl,rfl,rfl,by simp[World.setRow],λb G d=> ?_⟩;unfold World.setRow;simp only;rw[F8,Ϗ (λe=>d e.symm)]
def zr {a:Act} (N:o.guard=ϋ) (G:TypeId) (x y:Operand) (O:o.op= .store G x y)
  (g:Nat) (t:TypeId) (c d:Array Value) (J:w.heap[g]? =ϊ (.cells c t (0,0))) (Y:a.eval x= γ g) (aa:a.eval y= θ d)
  (hi:(P.info? G).map (·.size)=ϊ d.size) (U:c.size=d.size) (H:d.all (·.oneCell')=ό)
  (h:wpList P ops Q rest (a.put o.dst undef) (w.setRow g d)):wpList P ops Q (o::rest) a w:=by
 refine wpList_plain N λK I=> ?_
 unfold Oper.wp execOp;simp only[O,Y,aa,Instr.storeAt,Instr.sureAddr,Sem.run_bind,Sem.run_pure,Result.andThen_ok,run_storeVar_row w g t G c d J hi U H];exact I _ _ h
def vR {I:Func} {p q:Tmp} {d:TypeId} (h:I.results= #[.cell p d,.tmp q]) (tmps:Array Value) (w:World) (g:Nat) (t:TypeId) (cs:Array Value) (G:TypeDesc) (H:Value)
  (O:tmps.getD p undef= γ g) (Y:tmps.getD q undef=H) (N:w.heap[g]? =ϊ (.cells cs t (0,0)))
  (ab:P.underlying d=ϊ G) (J:(match G with | .struct _ | .array _ _=>ό | _=>ύ)=ό) (hi:(P.info? d).map (·.size)=ϊ cs.size):
  (results I tmps).run P w= .ok (.tuple #[θ cs,H]) w:=by
 have U:tmps[p]?.getD undef= γ g:=by simpa using O
 have aa:tmps[q]?.getD undef=H:=by simpa using Y
 simp[results,h,U,aa,asAddr,run_loadVar_row w g t d cs (0,0) G N ab J hi]
def DL {t:Nat} (h:w.heap[B]? =ϊ (.cells cs t (0,0))) (cs':Array Value): ∃W,w.setRow B cs'=W/\W.heap[B]? =ϊ (.cells cs' t (0,0))/\jt (λb=>b=B) w W:=⟨_,rfl,If h cs',En _ _ _⟩
def XO (c:qQ) (O:Option Addr) (J:Nat) (w:World) (s:SlI .u8 w (δ O c.2.2.1.length J) c.2.2.1) (ad:xk c) (ar:c.2.2.1.length<=400) (Y:c.2.1=200∨c.2.1=201):
  Calls prog 280 #[θ #[υ c.1,υ c.2.1,δ O c.2.2.1.length J]] w λe w'=>(∃vb va vl vo,e= .returned (.tuple #[θ #[ι (qv c).1.kind,μ (qv c).1.rep.snd,ω (qv c).1.rep.src,ω (qv c).1.rep.inf.sec,ω (qv c).1.rep.inf.frac,ω (qv c).1.rep.inf.stamp,ω (qv c).1.rep.inf.pkts,ω (qv c).1.rep.inf.octs,vb,ι (qv c).1.msg.kind,ω (qv c).1.msg.snd,ω (qv c).1.msg.med,va,vl,υ (qv c).1.oth.1,υ (qv c).1.oth.2.1,vo],ι (qv c).2])/\Gq w' vb va vl vo (qv c).1/\jX w vb/\jX w va/\jX w vl/\Ww w vo (δ O c.2.2.1.length J))/\ql w w':=by
 have S:=κ s;have af:=κ ad;have an:c.2.2.1.length<=1000000:=by omega
 obtain⟨W0,N⟩:=ν ((w.alloc (.cells #[υ c.1,υ c.2.1,δ O c.2.2.1.length J] 145)).alloc (.cells Γf 147));have U:Hid (ql w W0):=κ (by rw[<-N];exact X6.al _);have aa:Hid (W0.heap[w.heap.size+1]? =ϊ (.cells Γf 147 (0,0))):=κ (by rw[<-N];exact qC η);have I:=κ N;clear s ad N;have ae:Hid (qv c=(⟨1,(qG c).1,JI,Gj⟩,(qG c).2)):=κ (by unfold qv;rw[ϓ Y]);rw[ae.o];have ag:=κ (We (w:=W0) c (S.o.keep U.o) af.o an);have H:(c.2.1==200)=ό∨((c.2.1==200)=ύ/\(c.2.1==201)=ό):=by
  rcases Y with h | h
  ·exact ϑ (by rw[h];rfl)
  ·exact ϕ ⟨by rw[h];rfl,by rw[h];rfl⟩
 clear Y;rcases H with b1 | ⟨b1,b2⟩
 all_goals
  go_enter func280,ntmps280
  go_wp2_with (first | (go_at_call 306;(go_call (I.o▸ag.o) as e w1 ⟨⟨vb,rfl,s1,n1⟩,m⟩;have aj:=κ s1;have ai:=κ n1;obtain⟨G,d,rfl,_⟩:=s1;have ah:=κ (U.o.trans (I.o▸m));have ab:=κ (qs (qq (I.o▸m) aa.o) (.cells #[μ (qG c).1.snd,ω (qG c).1.src,ω (qG c).1.inf.sec,ω (qG c).1.inf.frac,ω (qG c).1.inf.stamp,ω (qG c).1.inf.pkts,ω (qG c).1.inf.octs,δ G (qG c).1.bl.length d] 143));clear m n1)) | (refine jU rfl 143 (.tmp 4) (.tmp 19) rfl w1 _ #[μ (qG c).1.snd,ω (qG c).1.src,ω (qG c).1.inf.sec,ω (qG c).1.inf.frac,ω (qG c).1.inf.stamp,ω (qG c).1.inf.pkts,ω (qG c).1.inf.octs,δ G (qG c).1.bl.length d] rfl rfl rfl ξ rfl rfl ?_) | (refine wpList_load_row rfl 143 (.tmp 4) rfl w1.heap.size rfl _ #[μ (qG c).1.snd,ω (qG c).1.src,ω (qG c).1.inf.sec,ω (qG c).1.inf.frac,ω (qG c).1.inf.stamp,ω (qG c).1.inf.pkts,ω (qG c).1.inf.octs,δ G (qG c).1.bl.length d] _ _ (heap_alloc_new w1 _) underlying143 rfl ξ ?_) | (refine zr rfl 147 (.tmp 2) (.tmp 22) rfl (w.heap.size+1) _ _ #[ι 1,μ (qG c).1.snd,ω (qG c).1.src,ω (qG c).1.inf.sec,ω (qG c).1.inf.frac,ω (qG c).1.inf.stamp,ω (qG c).1.inf.pkts,ω (qG c).1.inf.octs,δ G (qG c).1.bl.length d,ι 0,ω 0,ω 0,(),(),υ 0,υ 0,()] ab.o rfl rfl ξ rfl (all_oneCell_toArray X8) ?_))
  obtain⟨WF,am,ak,a3⟩:=DL ab.o #[ι 1,μ (qG c).1.snd,ω (qG c).1.src,ω (qG c).1.inf.sec,ω (qG c).1.inf.frac,ω (qG c).1.inf.stamp,ω (qG c).1.inf.pkts,ω (qG c).1.inf.octs,δ G (qG c).1.bl.length d,ι 0,ω 0,ω 0,(),(),υ 0,υ 0,()];rw[am];have ao:=jt.to_more (ah.o.al _) a3 (λb e=>by omega);have ac:jX W0 (δ G (qG c).1.bl.length d):=by rw[<-I.o];exact ai.o
  have aq:SlP 7 Yj WF (δ G (qG c).1.bl.length d) (qG c).1.bl:=Yv (aj.o.keep Ca X6) (λb H (e:b=w.heap.size+1)=>by have:=ac b H;have:=qn aa.o;omega) a3;have ap:jX w (δ G (qG c).1.bl.length d):=λb H=>by have:=ac b H;have:=U.o.size;omega
  refine bodyPost_ret (v:= .tuple #[θ #[ι 1,μ (qG c).1.snd,ω (qG c).1.src,ω (qG c).1.inf.sec,ω (qG c).1.inf.frac,ω (qG c).1.inf.stamp,ω (qG c).1.inf.pkts,ω (qG c).1.inf.octs,δ G (qG c).1.bl.length d,ι 0,ω 0,ω 0,(),(),υ 0,υ 0,()],ι (qG c).2]) (vR results280 _ _ (w.heap.size+1) _ _ _ _ rfl rfl ak underlying147 rfl ξ) rfl ?_;exact⟨⟨_,_,_,_,rfl,⟨aq,⟨SlP.nil _ _ _,SlI.nil _ _⟩,SlI.nil _ _⟩,ap,jX.nil w,jX.nil w,ϑ (jX.nil w)⟩,ao⟩
def Wh (c:qQ) (U:Option Addr) (N:Nat) (w:World) (s:SlI .u8 w (δ U c.2.2.1.length N) c.2.2.1) (ay:xk c) (az:c.2.2.1.length<=400) (ac: ¬c.2.1=200) (ad: ¬c.2.1=201):
  Calls prog 280 #[θ #[υ c.1,υ c.2.1,δ U c.2.2.1.length N]] w λe w'=>(∃vb af ag vo,e= .returned (.tuple #[θ #[ι (qv c).1.kind,μ (qv c).1.rep.snd,ω (qv c).1.rep.src,ω (qv c).1.rep.inf.sec,ω (qv c).1.rep.inf.frac,ω (qv c).1.rep.inf.stamp,ω (qv c).1.rep.inf.pkts,ω (qv c).1.rep.inf.octs,vb,ι (qv c).1.msg.kind,ω (qv c).1.msg.snd,ω (qv c).1.msg.med,af,ag,υ (qv c).1.oth.1,υ (qv c).1.oth.2.1,vo],ι (qv c).2])/\Gq w' vb af ag vo (qv c).1/\jX w vb/\jX w af/\jX w ag/\Ww w vo (δ U c.2.2.1.length N))/\ql w w':=by
 have S:=κ s;have aA:=κ ay;have aC:c.2.2.1.length<=1000000:=by omega
 obtain⟨W0,ae⟩:=ν ((w.alloc (.cells #[υ c.1,υ c.2.1,δ U c.2.2.1.length N] 145)).alloc (.cells Γf 147));have ab:Hid (ql w W0):=κ (by rw[<-ae];exact X6.al _);have ax:Hid (W0.heap[w.heap.size]? =ϊ (.cells #[υ c.1,υ c.2.1,δ U c.2.2.1.length N] 145 (0,0))):=κ (by rw[<-ae];exact qs (qj w _) _);have ah:Hid (W0.heap[w.heap.size+1]? =ϊ (.cells Γf 147 (0,0))):=κ (by rw[<-ae];exact qC η);have J:=κ ae;clear s ay ae;have aI:(c.2.1==200)=ύ:=beq_eq_false_iff_ne.2 ac;have aJ:(c.2.1==201)=ύ:=beq_eq_false_iff_ne.2 ad;have au:=κ (Wd (w:=W0) c (S.o.keep ab.o) aA.o aC);by_cases h5:(qJ c).2=5
 ·have aj:Hid (qv c=(⟨3,Qh,JI,c⟩,0)):=κ (by unfold qv;rw[Ϗ (λe=>e.elim ac ad),ϓ h5]);rw[aj.o];have aB:((qJ c).2==5)=ό:=by rw[h5];rfl
  clear ac ad h5
  go_enter func280,ntmps280
  go_wp2_with (first | (go_at_call 266;(go_call (J.o▸au.o) as e w1 ⟨⟨af,ag,rfl,s1,n1,n2⟩,m⟩;have ak:=κ s1;have av:=κ n1;have aw:=κ n2;obtain⟨⟨H,d,rfl,_⟩,⟨I,G,rfl,_⟩⟩:=id s1;have ai:=κ (ab.o.trans (J.o▸m));have aa:=κ (qs (qq (J.o▸m) ah.o) (.cells #[ι (qJ c).1.kind,ω (qJ c).1.snd,ω (qJ c).1.med,δ H (qJ c).1.asks.length d,δ I (qJ c).1.lost.length G] 137));have Y:=κ (qs (qq (J.o▸m) ax.o) (.cells #[ι (qJ c).1.kind,ω (qJ c).1.snd,ω (qJ c).1.med,δ H (qJ c).1.asks.length d,δ I (qJ c).1.lost.length G] 137));have aF:=β0 Y.o;have aG:=β1 Y.o;have aH:=β2 Y.o;clear m n1 n2 s1)) | (refine jU rfl 137 (.tmp 6) (.tmp 27) rfl w1 _ #[ι (qJ c).1.kind,ω (qJ c).1.snd,ω (qJ c).1.med,δ H (qJ c).1.asks.length d,δ I (qJ c).1.lost.length G] rfl rfl rfl ξ rfl rfl ?_) | (refine zr rfl 147 (.tmp 2) (.tmp 32) rfl (w.heap.size+1) _ _ #[ι 3,ύ,ω 0,ω 0,ω 0,ω 0,ω 0,ω 0,(),ι 0,ω 0,ω 0,(),(),υ c.1,υ c.2.1,δ U c.2.2.1.length N] aa.o rfl rfl ξ rfl (all_oneCell_toArray X8) ?_))
  obtain⟨WF,an,am,a3⟩:=DL aa.o #[ι 3,ύ,ω 0,ω 0,ω 0,ω 0,ω 0,ω 0,(),ι 0,ω 0,ω 0,(),(),υ c.1,υ c.2.1,δ U c.2.2.1.length N];rw[an];have ao:=jt.to_more (ai.o.al _) a3 (λb e=>by omega);have ap:SlI .u8 WF (δ U c.2.2.1.length N) c.2.2.1:=SlI.off2 (S.o.keep (ai.o.al _)) (λaz b O (e:b=w.heap.size+1)=>by have:=S.o.old az O;omega) a3;refine bodyPost_ret (v:= .tuple #[θ #[ι 3,ύ,ω 0,ω 0,ω 0,ω 0,ω 0,ω 0,(),ι 0,ω 0,ω 0,(),(),υ c.1,υ c.2.1,δ U c.2.2.1.length N],ι 0]) (vR results280 _ _ (w.heap.size+1) _ _ _ _ rfl rfl am underlying147 rfl ξ) rfl ?_;exact⟨⟨_,_,_,_,rfl,⟨SlP.nil _ _ _,⟨SlP.nil _ _ _,SlI.nil _ _⟩,ap⟩,jX.nil w,jX.nil w,jX.nil w,ϕ rfl⟩,ao⟩
 ·have aj:Hid (qv c=(⟨2,Qh,(qJ c).1,Gj⟩,(qJ c).2)):=κ (by unfold qv;rw[Ϗ (λe=>e.elim ac ad),Ϗ h5]);rw[aj.o];have aB:((qJ c).2==5)=ύ:=beq_eq_false_iff_ne.2 h5;clear ac ad h5
  go_enter func280,ntmps280
  go_wp2_with (first | (go_at_call 266;(go_call (J.o▸au.o) as e w1 ⟨⟨af,ag,rfl,s1,n1,n2⟩,m⟩;have ak:=κ s1;have av:=κ n1;have aw:=κ n2;obtain⟨⟨H,d,rfl,_⟩,⟨I,G,rfl,_⟩⟩:=id s1;have ai:=κ (ab.o.trans (J.o▸m));have aa:=κ (qs (qq (J.o▸m) ah.o) (.cells #[ι (qJ c).1.kind,ω (qJ c).1.snd,ω (qJ c).1.med,δ H (qJ c).1.asks.length d,δ I (qJ c).1.lost.length G] 137));have Y:=κ (qs (qq (J.o▸m) ax.o) (.cells #[ι (qJ c).1.kind,ω (qJ c).1.snd,ω (qJ c).1.med,δ H (qJ c).1.asks.length d,δ I (qJ c).1.lost.length G] 137));have aF:=β0 Y.o;have aG:=β1 Y.o;have aH:=β2 Y.o;clear m n1 n2 s1)) | (refine jU rfl 137 (.tmp 6) (.tmp 27) rfl w1 _ #[ι (qJ c).1.kind,ω (qJ c).1.snd,ω (qJ c).1.med,δ H (qJ c).1.asks.length d,δ I (qJ c).1.lost.length G] rfl rfl rfl ξ rfl rfl ?_) | (refine wpList_load_row rfl 137 (.tmp 6) rfl w1.heap.size rfl _ #[ι (qJ c).1.kind,ω (qJ c).1.snd,ω (qJ c).1.med,δ H (qJ c).1.asks.length d,δ I (qJ c).1.lost.length G] _ _ (heap_alloc_new w1 _) underlying137 rfl ξ ?_) | (refine zr rfl 147 (.tmp 2) (.tmp 34) rfl (w.heap.size+1) _ _ #[ι 2,ύ,ω 0,ω 0,ω 0,ω 0,ω 0,ω 0,(),ι (qJ c).1.kind,ω (qJ c).1.snd,ω (qJ c).1.med,δ H (qJ c).1.asks.length d,δ I (qJ c).1.lost.length G,υ 0,υ 0,()] aa.o rfl rfl ξ rfl (all_oneCell_toArray X8) ?_))
  obtain⟨WF,an,am,a3⟩:=DL aa.o #[ι 2,ύ,ω 0,ω 0,ω 0,ω 0,ω 0,ω 0,(),ι (qJ c).1.kind,ω (qJ c).1.snd,ω (qJ c).1.med,δ H (qJ c).1.asks.length d,δ I (qJ c).1.lost.length G,υ 0,υ 0,()];rw[an];have ao:=jt.to_more (ai.o.al _) a3 (λb e=>by omega);have aq:jX W0 (δ H (qJ c).1.asks.length d):=by rw[<-J.o];exact av.o
  have ar:jX W0 (δ I (qJ c).1.lost.length G):=by rw[<-J.o];exact aw.o
  have ap:DG WF (δ H (qJ c).1.asks.length d) (δ I (qJ c).1.lost.length G) (qJ c).1:=⟨Ju (ak.o.asks.keep Cb X6) (λb O (e:b=w.heap.size+1)=>by have:=aq b O;have:=qn ah.o;omega) a3,SlI.off (ak.o.lost.keep X6) (λb O (e:b=w.heap.size+1)=>by have:=ar b O;have:=qn ah.o;omega) a3⟩;have aD:jX w (δ H (qJ c).1.asks.length d):=λb O=>by have:=aq b O;have:=ab.o.size;omega
  have aE:jX w (δ I (qJ c).1.lost.length G):=λb O=>by have:=ar b O;have:=ab.o.size;omega
  refine bodyPost_ret (v:= .tuple #[θ #[ι 2,ύ,ω 0,ω 0,ω 0,ω 0,ω 0,ω 0,(),ι (qJ c).1.kind,ω (qJ c).1.snd,ω (qJ c).1.med,δ H (qJ c).1.asks.length d,δ I (qJ c).1.lost.length G,υ 0,υ 0,()],ι (qJ c).2]) (vR results280 _ _ (w.heap.size+1) _ _ _ _ rfl rfl am underlying147 rfl ξ) rfl ?_;exact⟨⟨_,_,_,_,rfl,⟨SlP.nil _ _ _,ap,SlI.nil _ _⟩,jX.nil w,aD,aE,ϑ (jX.nil w)⟩,ao⟩
def Wi (c:qQ) (G:Option Addr) (d:Nat) (w:World) (s:SlI .u8 w (δ G c.2.2.1.length d) c.2.2.1) (H:xk c) (I:c.2.2.1.length<=400):
  Calls prog 280 #[θ #[υ c.1,υ c.2.1,δ G c.2.2.1.length d]] w λe w'=>(∃vb va vl vo,e= .returned (.tuple #[θ #[ι (qv c).1.kind,μ (qv c).1.rep.snd,ω (qv c).1.rep.src,ω (qv c).1.rep.inf.sec,ω (qv c).1.rep.inf.frac,ω (qv c).1.rep.inf.stamp,ω (qv c).1.rep.inf.pkts,ω (qv c).1.rep.inf.octs,vb,ι (qv c).1.msg.kind,ω (qv c).1.msg.snd,ω (qv c).1.msg.med,va,vl,υ (qv c).1.oth.1,υ (qv c).1.oth.2.1,vo],ι (qv c).2])/\Gq w' vb va vl vo (qv c).1/\jX w vb/\jX w va/\jX w vl/\Ww w vo (δ G c.2.2.1.length d))/\ql w w':=by
 by_cases h1:c.2.1=200
 ·exact XO c G d w s H I (ϑ h1)
 ·by_cases h2:c.2.1=201
  ·exact XO c G d w s H I (ϕ h2)
  ·exact Wh c G d w s H I h1 h2
end
section
open Go.RowKit Go.Lib
def Fg {vb G vo:Value} {x:Itm} (s:Gq w vb d G vo x) (O:Wu x) (I: ∀g,vb.ownBlock=ϊ g-> ¬D g) (H: ∀g,d.ownBlock=ϊ g-> ¬D g) (J: ∀g,G.ownBlock=ϊ g-> ¬D g) (N:x.oth.2.2.1≠[]-> ∀g,vo.ownBlock=ϊ g-> ¬D g):jw Qk D w (Hx x vb d G vo) x:=
 λ_ a=>⟨vb,d,G,vo,rfl,⟨Yv s.bl I a,⟨Ju s.ms.asks H a,s.ms.lost.off J a⟩,s.bo.off2 N a⟩,O⟩
def Cd (d:xk c):Wu (qv c).1:=by
 unfold qv;split
 ·exact⟨Bf d,gC,WQ⟩
 split
 ·exact⟨WJ,gC,d⟩
 ·exact⟨WJ,Bg d,WQ⟩
def Xa {k:List qQ} (h:szC k<=200) (i:Nat) (hi:i<k.length):(k.getD i xu).2.2.1.length<=400/\k.length<=200:=by
 have H:(k.getD i xu).2.2.1.length+4<=szC k:=by
  have:=JZ k i hi;have:=DX k (i+1);omega
 have d: ∀j,j<=k.length->j<=szC (k.take j):=by
  intro j
  induction j with
  | zero=>intro _;omega
  | succ j ih=>
   intro I;have:=JZ k j τ;have:=ih τ;omega
 have G:=d k.length (ϔ _);rw[Ϩ] at G;omega
structure ItJ (w wr:World) (u v:Value) (A:List Itm) (E:List Int):Prop where
 row:je 17 Qk (λb=>v.ownBlock=ϊ b) wr w.heap.size 147 u A
 errs:wr.ownsRow w.heap.size 35 1 v E.length (E.map (Value.int .i64))
 more:ql w wr
def ItJ.on (h:ItJ w wr u v A E) (m:ql wr w'):ItJ w w' u v A E:=⟨h.row.on m,jE h.errs m,h.more.trans m⟩
def ItJ.put {A':List Itm} (h:ItJ w wr u v A E) (I:je 17 Qk (λb=>v.ownBlock=ϊ b) w' w.heap.size 147 d A') (g:wr.grownBy w' u.ownBlock):ItJ w w' d v A' E:=
 ⟨I,XB h.errs g (λb G e=>h.row.apart b e G),Below.grown h.more g h.more.size (λk H=>h.row.ge H)⟩
def ItJ.err {v':Value} {E':List Int} (h:ItJ w wr u v A E) (G:w'.ownsRow w.heap.size 35 1 v' E'.length (E'.map (Value.int .i64))) (g:wr.grownBy w' v.ownBlock) (H:v'.ownBlock=v.ownBlock∨v'.ownBlock=ϊ wr.heap.size):ItJ w w' u v' A E':=
 ⟨h.row.beside g H,G,Below.grown h.more g h.more.size (λk d=>jG h.errs d)⟩
def wi {G:World} {x:Value} (h:ItJ w wr u v A E) (J:wr.heap.size<=G.heap.size) (f:jX G x): ∀g,x.ownBlock=ϊ g-> ¬(v.ownBlock=ϊ g∨u.ownBlock=ϊ g):=by
 intro g H d;have I:=f g H;rcases d with d | d
 ·have:=gB h.errs d;omega
 ·have:=h.row.lt d;omega
def US {Y:World} {N O:Option Addr} {U J:Nat} {c G:List Int} (h:ItJ w wr u v A E) (f:Ww Y (δ N c.length U) (δ O G.length J)) (ad:SlI .u8 w (δ O G.length J) G) (ac:wr.heap.size<=Y.heap.size):
  c≠[]-> ∀g,(δ N c.length U).ownBlock=ϊ g-> ¬(v.ownBlock=ϊ g∨u.ownBlock=ϊ g):=by
 intro ab g I d;rcases f with f | f
 ·exact wi h ac f g I d
 ·have H:=f;injection H with _ H _
  have aa:G≠[]:=λe=>ab (Ϡ (by rw[H,e];rfl))
  rw[f] at I;have ae:=ad.old aa I;rcases d with d | d
  ·have:=jG h.errs d;omega
  ·have:=h.row.ge d;omega
def Dq (b:List Int) (v:Value) (w:World) (H:SlI .u8 w v b) (O:Byt b) (U:b.length<=1000000) (d: ¬(jI b).2=0):
  Calls prog 240 #[v] w λe w'=> ∃vx,e= .returned (.tuple #[vx,ι (zx b).2])/\SlP 17 Qk w' vx (zx b).1/\ql w w':=by
 have J:=κ (Z6 v b w H O U);have I:Hid (zx b=([],(jI b).2)):=κ (by unfold zx;rw[Ϗ d]);have Y:((jI b).2 != 0)=ό:=by simp[d]
 clear H d;rw[I.o]
 go_enter func240,ntmps240
 go_wp2_with (go_at_call 279;(go_call J.o as e w1 ⟨aa,rfl,s1,G⟩;have N:=κ G;clear s1 G))
 go_ret2
 exact⟨_,rfl,SlP.nil _ _ _,N.o⟩
def Wb (b:List Int) (v:Value) (w:World) (sl:SlI .u8 w v b) (aD:Byt b) (be:b.length<=1000000) (ae:(jI b).2=0):
  Calls prog 240 #[v] w λe w'=> ∃vx,e= .returned (.tuple #[vx,ι (zx b).2])/\SlP 17 Qk w' vx (zx b).1/\ql w w':=by
 obtain⟨bk,hi,bf,bg,bh⟩:=info_parts (P:=prog) (e:=147) (z:= Γf) (size:=17) (bytes:=160) ξ;obtain⟨bm,bn,bp,bq,br⟩:=info_parts (P:=prog) (e:=35) (z:= ι 0) (size:=1) (bytes:=8) ξ;have ac:=κ (Z6 v b w sl aD be);have ay:Hid (szC (jI b).1<=200):=κ (QY aD (k:=(jI b).1) (by rw[<-ae])).2.2.2;have G:Hid (zx b=if vg ((jI b).1.map λc=>(qv c).2)=0 then ((jI b).1.map λc=>(qv c).1,0) else ([],vg ((jI b).1.map λc=>(qv c).2))):=κ (by unfold zx;rw[ϓ ae]);have aS:=κ ae;clear sl ae;generalize (jI b).1=l at *
 go_enter func240,ntmps240
 go_wp2_with (go_at_call 279;(go_call ac.o as e w1 ⟨bL,rfl,s1,aL⟩;rw[aS.o];have bt:=κ s1;have az:=κ aL;obtain⟨bH,cap,rfl,bC,aG⟩:=Ae s1;have aU:=κ aG;clear s1 aL aG))
 have aY:Hid (ItJ w1 w1 (δ ϋ 0 0) (δ ϋ 0 0) [] []):=κ ⟨je.nil _ _ _ _ _ _,World.ownsRow_nil _ _ _ _,ql.refl _⟩;clear ac
 go_loopw [6,7,23] (λu v an wr=> ∃(j:Nat),j<=l.length/\an= ι j/\(∃ar ao ah au ap ai,u= δ ar ao ah/\v= δ au ap ai/\ItJ w1 wr (δ ar ao ah) (δ au ap ai) ((l.take j).map λc=>(qv c).1) ((l.take j).map λc=>(qv c).2))) (λ_ _ an _=>l.length-(intOf an).toNat)
 case atStart=>exact⟨0,τ,rfl,_,_,_,_,_,_,rfl,rfl,aY.o⟩
 case round=>
  obtain⟨j,bA,rfl,ar,ao,ah,au,ap,ai,rfl,rfl,aC⟩:=hrel;have d:=κ aC;clear aC;by_cases hlt:j<l.length
  ·obtain⟨bv,off,vb,rfl,bc,am⟩:=aU.o j hlt;obtain⟨bw,c1,c2,aJ,aF⟩:=am.more d.o.more bc;have aW:=κ am.sl;have av:=κ aF;have aX:=κ aJ;obtain⟨aE,bD⟩:=Xa ay.o j hlt;have aT:=κ aE;have bB:(j:Int)<(l.length:Int):=by omega
   have ac:=κ (kv l j xu hlt);have aw:Hid ((l.take j).length=j/\j<=200):=κ ⟨by simp;omega,τ⟩;clear am aF aE;generalize l.take j=acc at *;generalize l.getD j xu=c at *;obtain⟨aq,ag,rfl,_⟩:=aJ
   go_wp2_with (first | (go_at_call 280;(go_call Wi c aq ag _ (aX.o.keep X6) av.o aT.o as e w2 ⟨⟨bK,bJ,bM,bN,rfl,s2,n2,n3,aN,aB⟩,aM⟩;have bb:=κ s2;obtain⟨U,H,rfl,_⟩:=id s2.bl;obtain⟨Y,I,rfl,_⟩:=id s2.ms.asks;obtain⟨aa,J,rfl,_⟩:=id s2.ms.lost;obtain⟨ab,N,rfl,_⟩:=id s2.bo;have O:=(ql.alloc wr (.cells #[υ c.1,υ c.2.1,δ aq c.2.2.1.length ag] 145)).size;have aO:=κ (wi d.o O n2);have aP:=κ (wi d.o O n3);have aQ:=κ (wi d.o O aN);have aR:=κ (US d.o aB aW.o O);have ba:=κ ((ql.alloc wr (.cells #[υ c.1,υ c.2.1,δ aq c.2.2.1.length ag] 145)).trans aM);clear aM n2 n3 aN aB s2 O;have ad:=κ ((d.o.on ba.o).on ((ql.alloc w2 (.cells #[ι (qv c).1.kind,μ (qv c).1.rep.snd,ω (qv c).1.rep.src,ω (qv c).1.rep.inf.sec,ω (qv c).1.rep.inf.frac,ω (qv c).1.rep.inf.stamp,ω (qv c).1.rep.inf.pkts,ω (qv c).1.rep.inf.octs,δ U (qv c).1.rep.bl.length H,ι (qv c).1.msg.kind,ω (qv c).1.msg.snd,ω (qv c).1.msg.med,δ Y (qv c).1.msg.asks.length I,δ aa (qv c).1.msg.lost.length J,υ (qv c).1.oth.1,υ (qv c).1.oth.2.1,δ ab (qv c).1.oth.2.2.1.length N] 147)).al (.cells #[ι (qv c).1.kind,μ (qv c).1.rep.snd,ω (qv c).1.rep.src,ω (qv c).1.rep.inf.sec,ω (qv c).1.rep.inf.frac,ω (qv c).1.rep.inf.stamp,ω (qv c).1.rep.inf.pkts,ω (qv c).1.rep.inf.octs,δ U (qv c).1.rep.bl.length H,ι (qv c).1.msg.kind,ω (qv c).1.msg.snd,ω (qv c).1.msg.med,δ Y (qv c).1.msg.asks.length I,δ aa (qv c).1.msg.lost.length J,υ (qv c).1.oth.1,υ (qv c).1.oth.2.1,δ ab (qv c).1.oth.2.2.1.length N] 147))))) | (refine jU rfl 147 (.tmp 10) (.tmp 30) rfl w2 _ #[ι (qv c).1.kind,μ (qv c).1.rep.snd,ω (qv c).1.rep.src,ω (qv c).1.rep.inf.sec,ω (qv c).1.rep.inf.frac,ω (qv c).1.rep.inf.stamp,ω (qv c).1.rep.inf.pkts,ω (qv c).1.rep.inf.octs,δ U (qv c).1.rep.bl.length H,ι (qv c).1.msg.kind,ω (qv c).1.msg.snd,ω (qv c).1.msg.med,δ Y (qv c).1.msg.asks.length I,δ aa (qv c).1.msg.lost.length J,υ (qv c).1.oth.1,υ (qv c).1.oth.2.1,δ ab (qv c).1.oth.2.2.1.length N] rfl rfl rfl ξ rfl (all_oneCell_toArray X8) ?_) | (refine wpList_load_row rfl 147 (.tmp 10) rfl w2.heap.size rfl _ #[ι (qv c).1.kind,μ (qv c).1.rep.snd,ω (qv c).1.rep.src,ω (qv c).1.rep.inf.sec,ω (qv c).1.rep.inf.frac,ω (qv c).1.rep.inf.stamp,ω (qv c).1.rep.inf.pkts,ω (qv c).1.rep.inf.octs,δ U (qv c).1.rep.bl.length H,ι (qv c).1.msg.kind,ω (qv c).1.msg.snd,ω (qv c).1.msg.med,δ Y (qv c).1.msg.asks.length I,δ aa (qv c).1.msg.lost.length J,υ (qv c).1.oth.1,υ (qv c).1.oth.2.1,δ ab (qv c).1.oth.2.2.1.length N] _ _ (heap_alloc_new w2 _) underlying147 rfl ξ ?_) | (at_builtin;refine jN _ rfl (.tmp 32) (.tmp 34) 148 rfl w1.heap.size 147 bk (Γf) 17 160 underlying148 hi bf bg bh rfl ζ _ (acc.map λc=>(qv c).1) rfl ad.o.row (w2.heap.size+1) [ι (qv c).1.kind,μ (qv c).1.rep.snd,ω (qv c).1.rep.src,ω (qv c).1.rep.inf.sec,ω (qv c).1.rep.inf.frac,ω (qv c).1.rep.inf.stamp,ω (qv c).1.rep.inf.pkts,ω (qv c).1.rep.inf.octs,δ U (qv c).1.rep.bl.length H,ι (qv c).1.msg.kind,ω (qv c).1.msg.snd,ω (qv c).1.msg.med,δ Y (qv c).1.msg.asks.length I,δ aa (qv c).1.msg.lost.length J,υ (qv c).1.oth.1,υ (qv c).1.oth.2.1,δ ab (qv c).1.oth.2.2.1.length N] (qv c).1 rfl rfl (zS η) X8 ((Fg bb.o (Cd av.o) aO.o aP.o aQ.o aR.o).on (X6.al _)) (λb h=>gB ad.o.errs h) ζ (by have:=aw.o;rw[ϱ];omega) ad.o.more.size ?_;intro bI w8 aj aH bd;have af:=κ (ad.o.put aj aH);obtain⟨bF,bE,bx,rfl,bi,bj⟩:=aj.shape;clear aj aH bd bi bj) | (at_builtin;refine qU _ rfl (.tmp 36) (.tmp 38) 284 rfl w1.heap.size 35 bm (ι 0) 8 underlying284 bn bp bq br rfl _ .i64 (acc.map λc=>(qv c).2) rfl (af.o.on X6).errs _ [(qv c).2] rfl (SlI.lit .i64 w8 [(qv c).2] 35 _ 1 _ rfl rfl rfl η) (by have:=aw.o;rw[ϱ];simp;omega) ζ (by have:=af.o.more.size;simp;omega) ?_;intro v9 w9 ak aI aK;have aZ:=κ ((af.o.on X6).err ak aI aK);obtain⟨bG,bz,aA⟩:=xl ak;rw[show ((acc.map λc=>(qv c).2)++[(qv c).2]).length=acc.length+1 from by simp] at aA;subst aA;clear ak aI aK))
   go_roundw
   case rel=>exact⟨j+1,τ,by go_num,_,_,_,_,_,_,rfl,rfl,by rw[ac.o,ϩ,ϩ];exact aZ.o⟩
   case measure=>simp[intOf];omega
  ·obtain rfl:j=l.length:=by omega
   rw[Ϩ] at d
   have ax:Hid ((l.map λc=>(qv c).2).length<=1000):=κ (by
    rw[ϱ];by_cases he:0<l.length
    ·have:=(Xa ay.o 0 he).2;omega
    ·omega)
   by_cases hf:vg (l.map λc=>(qv c).2)=0
   ·have aV:=κ hf;rw[ϓ hf] at G;clear hf
    go_wp2_with (go_at_call 141;(go_call gh (l.map λc=>(qv c).2) _ _ (SlI.of_owns d.o.errs (by have:=ax.o;omega)) as e bs ⟨rfl,rfl⟩;rw[aV.o]))
    go_ret2
    exact⟨_,by rw[G.o];rfl,by rw[G.o];exact d.o.row.sl ζ,az.o.trans d.o.more⟩
   ·have bu:(vg (l.map λc=>(qv c).2) != 0)=ό:=by simp[hf]
    rw[Ϗ hf] at G;clear hf
    go_wp2_with (go_at_call 141;(go_call gh (l.map λc=>(qv c).2) _ _ (SlI.of_owns d.o.errs (by have:=ax.o;omega)) as e bs ⟨rfl,rfl⟩))
    go_ret2
    exact⟨_,by rw[G.o];rfl,by rw[G.o];exact SlP.nil _ _ _,az.o.trans d.o.more⟩
def Dr (b:List Int) (v:Value) (w:World) (H:SlI .u8 w v b) (d:Byt b) (G:b.length<=1000000):
  Calls prog 240 #[v] w λe w'=> ∃vx,e= .returned (.tuple #[vx,ι (zx b).2])/\SlP 17 Qk w' vx (zx b).1/\ql w w':=by
 by_cases h0:(jI b).2=0
 ·exact Wb b v w H d G h0
 ·exact Dq b v w H d G h0
end
section
open Go.RowKit Go.Lib
def go (x:Itm):List Int:=if x.kind=2 then (if x.msg.kind=1 then [x.msg.med] else if x.msg.kind=2 then x.msg.asks.map Prod.fst else []) else []
def xU (l:List Itm):List Int:=l.flatMap go
def Cr {x:Itm} (h:CY x):(go x).length<=100000:=by
 unfold go;split
 ·split
  ·simp
  ·split
   ·rw[ϱ];exact h.asks
   ·simp
 ·simp
def U6 (l m:List Itm):xU (l++m)=xU l++xU m:=by simp[xU]
def U5 (x:Itm):xU [x]=go x:=by simp[xU]
def wY: ∀{l:List Itm},(∀x∈l,CY x)->(xU l).length<=l.length* 100000
 | [],_=>by simp[xU]
 | x::l,h=>by
  have G:=Cr (h x η);have H:=wY (l:=l) λy d=>h y (by simp[d])
  show ((go x)++xU l).length<=_;rw[ώ,Ϙ];omega
structure AsJ (w wr:World) (u:Value) (A:List Int):Prop where
 row:wr.ownsRow w.heap.size 69 1 u A.length (A.map (Value.int .u32))
 more:ql w wr
def AsJ.on {A:List Int} (h:AsJ w wr u A) (m:ql wr w'):AsJ w w' u A:=⟨jE h.row m,h.more.trans m⟩
def AsJ.put {A A':List Int} (h:AsJ w wr u A) (H:w'.ownsRow w.heap.size 69 1 d A'.length (A'.map (Value.int .u32))) (g:wr.grownBy w' u.ownBlock):AsJ w w' d A':=
 ⟨H,Below.grown h.more g h.more.size (λk G=>jG h.row G)⟩
def Wo (l:List Itm) (v:Value) (w:World) (aG:SlP 17 Qk w v l) (bl:l.length<=1000) (az: ∀x∈l,CY x):
  Calls prog 241 #[v] w λe w'=> ∃vx,e= .returned vx/\(SlI .u32 w' vx (xU l)/\ ∀q,vx.ownBlock=ϊ q->w.heap.size<=q)/\ql w w':=by
 obtain⟨aF,hi,aC,aD,aE⟩:=info_parts (P:=prog) (e:=69) (z:= ω 0) (size:=1) (bytes:=4) ξ;obtain⟨bn,cap,rfl,bm,ax,aT⟩:=Mf aG;have aI:=κ ax;have ao:=κ az;have aO:Hid (AsJ w w (δ ϋ 0 0) []):=κ ⟨World.ownsRow_nil _ _ _ _,ql.refl _⟩;clear aG ax aT az
 go_enter func241,ntmps241
 go_wp2
 go_loopw [3,10] (λu I wr=> ∃j:Nat,j<=l.length/\I= ι j/\AsJ w wr u (xU (l.take j))) (λ_ I _=>l.length-(intOf I).toNat)
 case atStart=>exact⟨0,τ,rfl,aO.o⟩
 case round=>
  obtain⟨j,bj,rfl,O⟩:=hrel;have d:=κ O;clear O;by_cases hlt:j<l.length
  ·obtain⟨b,off,aj,ae,al,af,am,ag,an,ah,rfl,av,aB,aA⟩:=aI.o j hlt;have aL:=κ (Y0 aB d.o.more av);have ay:l.getD j wL∈l:=by rw[ϒ,ϖ hlt];exact ϥ hlt
   have aK:=κ (ao.o _ ay);have aN:=κ aA.ms.asks;have bk:(j:Int)<(l.length:Int):=by omega
   have bg:b<wr.heap.size:=ϗ av d.o.more.size;have ab:Hid (xU (l.take (j+1))=xU (l.take j)++go (l.getD j wL)):=κ (by rw[kv l j wL hlt,U6,U5])
   have aa:Hid ((xU (l.take j)).length<=100000000):=κ (by
    have:=wY (l:=l.take j) λx aV=>ao.o x (V7 aV)
    rw[Ϥ] at this
    omega)
   clear aB aA ay;generalize xU (l.take j)=acc at *;generalize l.getD j wL=x at *
   go_upto_region 5 with (first | (refine wpList_load_mid rfl 147 (.tmp 12) rfl b (off+j* 17) rfl (Γo x aj ae al af am ag an ah) _ aL.o underlying147 rfl ξ ?_) | (refine jU rfl 147 (.tmp 5) (.tmp 13) rfl wr _ (Γo x aj ae al af am ag an ah) rfl rfl rfl ξ rfl rfl ?_))
   obtain⟨ad,ai⟩:=ν (wr.alloc (.cells (Γo x aj ae al af am ag an ah) 147));have ac:Hid (ql wr ad):=κ (by rw[<-ai];exact ql.alloc _ _);have H:Hid (ad.heap[wr.heap.size]? =ϊ (.cells (Γo x aj ae al af am ag an ah) 147 (0,0))):=κ (by rw[<-ai];exact qj _ _);rw[ai];clear ai;have aS:wr.heap.size<ad.heap.size:=qn H.o;have t0:=β0 H.o;have t9:=β9 H.o;have aW:=β11 H.o;have aX:=β12 H.o;have aY:=β13 H.o;by_cases hk:x.kind=2
   ·have aR:(x.kind != 2)=ύ:=by simp[hk]
    by_cases h1:x.msg.kind=1
    ·have aP:(x.msg.kind==1)=ό:=by simp[h1]
     have G:Hid (go x=[x.msg.med]):=κ (by unfold go;rw[ϓ hk,ϓ h1]);clear hk h1;have N:=κ (d.o.on ac.o)
     go_wp2_with (at_builtin;refine qU _ rfl (.tmp 22) (.tmp 26) 131 rfl w.heap.size 69 aF (ω 0) 4 underlying131 hi aC aD aE rfl _ .u32 acc rfl (N.o.on X6).row _ [x.msg.med] rfl (SlI.lit .u32 ad [x.msg.med] 69 _ 1 _ rfl rfl rfl η) (by have:=aa.o;simp;omega) ζ (by have:=N.o.more.size;simp;omega) ?_;intro v9 w9 Y U aq;have ap:=κ ((N.o.on X6).put Y U);clear Y U aq)
     go_roundw
     case measure=>simp[intOf];omega
     case rel=>exact⟨j+1,τ,by go_num,by rw[ab.o,G.o];exact ap.o⟩
    ·have aP:(x.msg.kind==1)=ύ:=by simp[h1]
     by_cases h2:x.msg.kind=2
     ·have aQ:(x.msg.kind==2)=ό:=by simp[h2]
      have G:Hid (go x=x.msg.asks.map Prod.fst):=κ (by unfold go;rw[ϓ hk,Ϗ h1,ϓ h2]);clear hk h1 h2;have N:=κ (d.o.on ac.o);go_wp2;have bb:=κ d.o.more;obtain⟨aH,rfl⟩: ∃aH:World,aH=wr:=⟨_,rfl⟩;have ar:=κ aK.o.asks;generalize x.msg.asks=ak at *;have be:ak.length<=100000:=ar.o;clear t0 t9 aW aX aY H aS
      go_loopw [3,34] (λu I wr=> ∃i:Nat,i<=ak.length/\I= ι i/\AsJ w wr u (acc++(ak.take i).map Prod.fst)) (λ_ I _=>ak.length-(intOf I).toNat)
      case atStart=>exact⟨0,τ,rfl,by simpa using N.o⟩
      case round=>
       obtain⟨i,bh,rfl,O⟩:=hrel;have J:=κ O;clear O;by_cases hlt3:i<ak.length
       ·obtain⟨bc,bo,rfl,bf,aw,aZ,ba⟩:=Dj aN.o i hlt3;obtain⟨bd,c1⟩:=aw _ J.o.more;have bi:(i:Int)<(ak.length:Int):=by omega
        have aM:Hid (acc++(ak.take (i+1)).map Prod.fst=(acc++(ak.take i).map Prod.fst)++[(ak.getD i (0,0)).1]):=κ (by rw[kv ak i (0,0) hlt3,ϩ,ϭ];rfl);have aJ:Hid ((acc++(ak.take i).map Prod.fst).length<=100100000):=κ (by have:=aa.o;have:=ar.o;rw[ώ,ϱ,Ϥ];omega);clear aw aZ ba;generalize acc++(ak.take i).map Prod.fst=acc3 at *;generalize (ak.getD i (0,0)).1=y1 at *;generalize (ak.getD i (0,0)).2=y2 at *;have au:=κ (J.o.on (ql.alloc wr (.cells #[ω y1,υ y2] 356)))
        go_wp2_with (at_builtin;refine qU _ rfl (.tmp 38) (.tmp 41) 131 rfl w.heap.size 69 aF (ω 0) 4 underlying131 hi aC aD aE rfl _ .u32 acc3 rfl (au.o.on X6).row _ [y1] rfl (SlI.lit .u32 (wr.alloc (.cells #[ω y1,υ y2] 356)) [y1] 69 _ 1 _ rfl rfl η η) (by have:=aJ.o;rw[I1];omega) ζ (by have:=J.o.more.size;simp;omega) ?_;intro v9 w9 Y U aq;have ap:=κ ((au.o.on X6).put Y U);clear Y U aq)
        go_roundw
        case measure=>simp[intOf];omega
        case rel=>exact⟨i+1,τ,by go_num,by rw[aM.o];exact ap.o⟩
       ·obtain rfl:i=ak.length:=by omega
        rw[Ϩ] at J;go_wp2;go_roundw
        case measure=>simp[intOf];omega
        case rel=>exact⟨j+1,τ,by go_num,by rw[ab.o,G.o];exact J.o⟩
     ·have aQ:(x.msg.kind==2)=ύ:=by simp[h2]
      have G:Hid (go x=[]):=κ (by unfold go;rw[ϓ hk,Ϗ h1,Ϗ h2]);clear hk h1 h2;go_wp2;go_roundw
      case measure=>simp[intOf];omega
      case rel=>exact⟨j+1,τ,by go_num,by rw[ab.o,G.o,Θ];exact d.o.on ac.o⟩
   ·have aR:(x.kind != 2)=ό:=by simp[hk]
    have G:Hid (go x=[]):=κ (by unfold go;rw[Ϗ hk]);clear hk;go_wp2;go_roundw
    case measure=>simp[intOf];omega
    case rel=>exact⟨j+1,τ,by go_num,by rw[ab.o,G.o,Θ];exact d.o.on ac.o⟩
  ·obtain rfl:j=l.length:=by omega
   rw[Ϩ] at d;have aa:Hid ((xU l).length<=100000000):=κ (by have:=wY (l:=l) ao.o;omega);go_wp2;go_ret;exact⟨_,rfl,⟨SlI.of_owns d.o.row (by have:=aa.o;omega),λq aU=>jG d.o.row aU⟩,d.o.more⟩
end
structure Ds where
 lo:Bool
 st:Bool
 pt:Int
 pic:Int
 wd:Bool
 bs:Int
 tr:Int
 sy:Bool
 ky:Int
def ds0:Ds:=⟨ύ,ύ,0,0,ύ,0,0,ύ,0⟩
def b1 (b:Bool) (n:Int):Int:=if b then n else 0
def nB (s:RdS):Int:=num (tkB s.1 1)
def bit (n k:Int):Bool:=decide (n/k%2=1)
def headD (s:RdS):Int×Int×RdS:=if bit (nB s) 128 then (nB s,nB (tkS s 1),tkS (tkS s 1) 1) else (nB s,0,tkS s 1)
def gk (t:Int) (s:RdS):(Int×Bool)×RdS:=if bit t 128 then (if nB s<128 then ((nB s,ύ),tkS s 1) else (((nB s-128)* 256+nB (tkS s 1),ό),tkS (tkS s 1) 1)) else ((-1,ύ),s)
def Jl (t:Int) (s:RdS):Int×RdS:=if bit t 64 then (nB s,tkS s 1) else (-1,s)
def QP (t:Int) (s:RdS):Int×RdS:=if bit t 32||bit t 16 then (nB s,tkS s 1) else (0,s)
def mkD (f t:Int) (p:Int×Bool) (b q:Int):Ds:=⟨bit f 32,bit f 16,f%8,p.1,p.2,b,if bit t 32 then q/64 else -1,bit t 32&&bit q 32,if bit t 16 then q%32 else -1⟩
def Zs (f t:Int) (s:RdS):Ds×RdS:=
 (mkD f t (gk t s).1 (Jl t (gk t s).2).1 (QP t (Jl t (gk t s).2).2).1,(QP t (Jl t (gk t s).2).2).2)
def DE (n:Int) (x:Ds×RdS):Ds×Int×Int:=if x.2.2=3 then (ds0,0,3) else (x.1,n-x.2.1.length,0)
def qW (b:List Int):Ds×Int×Int:=DE b.length (Zs (headD (b,0)).1 (headD (b,0)).2.1 (headD (b,0)).2.2)
def zJ (b:List Int):Bool:=
 decide ((qW b).2.2=0)&&(qW b).1.st&&decide ((qW b).1.pt=0)&&decide ((qW b).2.1<b.length)&&decide (b.getD (qW b).2.1.toNat 0%2=0)
def GI (f t:Int) (s:RdS):(Zs f t s).2.1.length<=s.1.length:=by
 have d: ∀s:RdS,(tkS s 1).1.length<=s.1.length:=λs=>by unfold tkS tkL;rw[Ϭ];omega
 unfold Zs;have H:(gk t s).2.1.length<=s.1.length:=by
  unfold gk;split
  ·split
   ·exact d _
   ·exact ϙ (d _) (d _)
  ·exact ϔ _
 have G: ∀s,(Jl t s).2.1.length<=s.1.length:=λs=>by
  unfold Jl;split
  ·exact d _
  ·exact ϔ _
 have I: ∀s,(QP t s).2.1.length<=s.1.length:=λs=>by
  unfold QP;split
  ·exact d _
  ·exact ϔ _
 exact ϙ (I _) (ϙ (G _) H)
def orB: ∀m:Fin 256,((m.val:Int)/128%2=0->bits .or .u8 (m.val:Int) 128=(m.val:Int)+128)/\((m.val:Int)/64%2=0->bits .or .u8 (m.val:Int) 64=(m.val:Int)+64)/\((m.val:Int)/32%2=0->bits .or .u8 (m.val:Int) 32=(m.val:Int)+32)/\((m.val:Int)/16%2=0->bits .or .u8 (m.val:Int) 16=(m.val:Int)+16):=Ϧ ξ
def Nw (h:0<=x/\x<=255):(x/128%2=0->bits .or .u8 x 128=x+128)/\(x/64%2=0->bits .or .u8 x 64=x+64)/\(x/32%2=0->bits .or .u8 x 32=x+32)/\(x/16%2=0->bits .or .u8 x 16=x+16):=by
 obtain⟨m,rfl⟩:=A4 h.1;exact orB ⟨m,τ⟩
def Nq: ∀m:Fin 256,(bits .and .u8 (m.val:Int) 128=if bit (m.val:Int) 128 then 128 else 0)/\(bits .and .u8 (m.val:Int) 64=if bit (m.val:Int) 64 then 64 else 0)/\(bits .and .u8 (m.val:Int) 32=if bit (m.val:Int) 32 then 32 else 0)/\(bits .and .u8 (m.val:Int) 16=if bit (m.val:Int) 16 then 16 else 0)/\bits .and .u8 (m.val:Int) 7=(m.val:Int)%8/\((bits .and .u8 (m.val:Int) 48 != 0)=(bit (m.val:Int) 32||bit (m.val:Int) 16)):=Ϧ ξ
def Zw (h:0<=x/\x<=255):(bits .and .u8 x 128=if bit x 128 then 128 else 0)/\(bits .and .u8 x 64=if bit x 64 then 64 else 0)/\(bits .and .u8 x 32=if bit x 32 then 32 else 0)/\(bits .and .u8 x 16=if bit x 16 then 16 else 0)/\bits .and .u8 x 7=x%8/\((bits .and .u8 x 48 != 0)=(bit x 32||bit x 16)):=by
 obtain⟨m,rfl⟩:=A4 h.1;exact Nq ⟨m,τ⟩
def Mp: ∀m:Fin 256,((bits .and .u8 (m.val:Int) 128 != 0)=bit (m.val:Int) 128)/\((bits .and .u8 (m.val:Int) 64 != 0)=bit (m.val:Int) 64)/\((bits .and .u8 (m.val:Int) 32 != 0)=bit (m.val:Int) 32)/\((bits .and .u8 (m.val:Int) 16 != 0)=bit (m.val:Int) 16):=Ϧ ξ
def JW (h:0<=x/\x<=255):((bits .and .u8 x 128 != 0)=bit x 128)/\((bits .and .u8 x 64 != 0)=bit x 64)/\((bits .and .u8 x 32 != 0)=bit x 32)/\((bits .and .u8 x 16 != 0)=bit x 16):=by
 obtain⟨m,rfl⟩:=A4 h.1;exact Mp ⟨m,τ⟩
structure PrS (w0 w:World) (R hi Br B5 B7 B8:Nat) (s:RdS) (t:Int) (cs:Array Value):Prop where
 rd:qu w R s.1 s.2 (λg=>g<hi)
 more:ql w0 w
 br:w.heap[Br]? =ϊ (.cells #[.bool ύ,.bool ύ,.int .u8 0,.int .i64 0,.bool ύ,.int .i64 0,.int .i64 0,.bool ύ,.int .i64 0] 390 (0,0))
 b5:w.heap[B5]? =ϊ (.cells #[.pointer (ϊ ⟨R,0,ϋ⟩)] 295 (0,0))
 b7:w.heap[B7]? =ϊ (.cells #[.int .u8 t] 5 (0,0))
 b8:w.heap[B8]? =ϊ (.cells cs 390 (0,0))
 n0:w0.heap.size<=Br
 nR:Br<R
 n1:R<hi
 n5:hi<=B5
 n7:B5<B7
 n8:B7<B8
def PrS.step {I:World} {d H:Nat} (h:PrS I w R hi Br d G H s t cs) (r:qu w' R s'.1 s'.2 (λg=>g<hi)) (a:jt (λb=>b=R) w w'):PrS I w' R hi Br d G H s' t cs:=by
 have:=h.n0;have:=h.nR;have:=h.n1;have:=h.n5;have:=h.n7;have:=h.n8;exact⟨r,jt.to_more h.more a (λk J=>by omega),a.blk h.br τ,a.blk h.b5 τ,a.blk h.b7 τ,a.blk h.b8 τ,h.n0,h.nR,h.n1,h.n5,h.n7,h.n8⟩
def PrS.on {I:World} {d H:Nat} (h:PrS I w R hi Br d G H s t cs) (m:ql w w'):PrS I w' R hi Br d G H s t cs:=
 ⟨h.rd.more m,h.more.trans m,qq m h.br,qq m h.b5,qq m h.b7,qq m h.b8,h.n0,h.nR,h.n1,h.n5,h.n7,h.n8⟩
def PrS.put8 {I:World} {H d:Nat} (h:PrS I w R hi Br G H d s t cs) (i:Nat) (v:Value):PrS I (w.setCell ⟨d,i,ϋ⟩ v) R hi Br G H d s t (cs.setIfInBounds i v):=by
 have:=h.n0;have:=h.nR;have:=h.n1;have:=h.n5;have:=h.n7;have:=h.n8;have a:jt (λb=>b=d) w (w.setCell ⟨d,i,ϋ⟩ v):=(jt.refl (λb=>b=d) w).set (p:=⟨d,i,ϋ⟩) rfl _;exact⟨h.rd.off a τ (λg J e=>by omega),h.more.st (p:=⟨d,i,ϋ⟩) (by show _<=d;omega) _,a.blk h.br τ,a.blk h.b5 τ,a.blk h.b7 τ,qp h.b8 i v,h.n0,h.nR,h.n1,h.n5,h.n7,h.n8⟩
def Zt (h:Byt s.1):0<=nB s/\nB s<=255:=by
 have:=zv (tkB s.1 1) 1 (jL h 1) (zh s.1 1 ζ) ζ;unfold nB;omega
def dC (f pic:Int) (wd:Bool) (bs tr:Int) (sy:Bool) (ky:Int):Array Value:= #[.bool (bit f 32),.bool (bit f 16),.int .u8 (f%8),.int .i64 pic,.bool wd,.int .i64 bs,.int .i64 tr,.bool sy,.int .i64 ky]
def PrQ (w0 w':World) (R hi Br B5 B7 B8 B10:Nat) (s:RdS) (t:Int) (cs:Array Value) (q:Int):Prop:=PrS w0 w' R hi Br B5 B7 B8 s t cs/\w'.heap[B10]? =ϊ (.cells #[.int .u64 q] 170 (0,0))
def CQ (s:RdS):Int:=if nB s<128 then nB s else (nB s-128)* 256+nB (tkS s 1)
def CS (s:RdS):RdS:=if nB s<128 then tkS s 1 else tkS (tkS s 1) 1
def CO (s:RdS):Bool:=decide (¬nB s<128)
def FK {ae:World} {J O N:Nat} {f:Int} (h:PrS ae w R hi Br J O N s t (dC f 0 ύ 0 0 ύ 0)):
  Calls prog 289 #[γ J,γ N] w λe w'=>e= .returned (ι (CQ s))/\PrS ae w' R hi Br J O N (CS s) t (dC f 0 (CO s) 0 0 ύ 0):=by
 unfold CQ CS CO;have al:=Zt h.rd.byt;have ac:Byt (tkS s 1).1:=h.rd.byt.drop _;have am:=Zt ac;have c5:=β0 h.b5;have H:=κ h;have aa:num (tkB s.1 1)=nB s:=rfl;have ab:num (tkB (tkS s 1).1 1)=nB (tkS s 1):=rfl;have U:=κ aa;have af:=κ ab;clear h aa ab ac;by_cases hn:nB s<128
 ·rw[ϓ hn,ϓ hn,ϯ τ];generalize ah:nB s=q at *;clear ah
  go_enter func289,ntmps289
  go_wp2_with (go_at_call 155;((with_reducible refine(jT H.o.rd).mono ?_);rintro e w1 ⟨rfl,G,d⟩;rw[U.o];have I:=κ (H.o.step (s':=tkS s 1) G d);clear G d))
  go_ret;exact⟨rfl,I.o⟩
 ·rw[Ϗ hn,Ϗ hn,ϻ τ];generalize nB s=q at *;generalize ai:nB (tkS s 1)=q2 at *;clear ai
  go_enter func289,ntmps289
  go_wp2_with first | (go_at_call 155;((with_reducible refine(jT H.o.rd).mono ?_);rintro e w1 ⟨rfl,G,d⟩;rw[U.o];have I:=κ ((H.o.step (s':=tkS s 1) G d).put8 4 (μ ό));have aj:=qa (H.o.step (s':=tkS s 1) G d).b8 4 (v:= μ ύ) rfl;have an:=yw (H.o.step (s':=tkS s 1) G d).b8 4;have ak:=β0 I.o.b5;clear G d)) | (go_at_call 155;((with_reducible refine(jT I.o.rd).mono ?_);rintro e w2 ⟨rfl,ad,Y⟩;rw[af.o];have ag:=κ (I.o.step (s':=tkS (tkS s 1) 1) ad Y);clear ad Y))
  go_ret;exact⟨rfl,ag.o⟩
def FZ {U:World} {d H:Nat} (h:PrS U w R hi Br d G H s t cs):
  Calls prog 290 #[γ d] w λe w'=>e= .returned (ι (nB s))/\PrS U w' R hi Br d G H (tkS s 1) t cs:=by
 have ab:=Zt h.rd.byt;have c5:=β0 h.b5;have I:=κ h;have N:num (tkB s.1 1)=nB s:=rfl;have Y:=κ N;clear h N;generalize nB s=q at *
 go_enter func290,ntmps290
 go_wp2_with (go_at_call 155;((with_reducible refine(jT I.o.rd).mono ?_);rintro e w1 ⟨rfl,O,J⟩;rw[Y.o];have aa:=κ (I.o.step (s':=tkS s 1) O J);clear O J))
 go_ret;exact⟨rfl,aa.o⟩
def Hg {q:Int} (h:0<=q/\q<=255):fld q 5 1=q/32%2/\fld q 6 2=q/64/\fld q 0 5=q%32:=by
 have t0:two 0=1:=by decide
 have t1:two 1=2:=by decide
 have t2:two 2=4:=by decide
 have t5:two 5=32:=by decide
 have d:two 6=64:=by decide
 unfold fld;refine⟨?_, ?_, ?_⟩
 ·rw[ϓ (show May 5 1 by unfold May;decide),t5,t1]
 ·rw[ϓ (show May 6 2 by unfold May;decide),d,t2];omega
 ·rw[ϓ (show May 0 5 by unfold May;decide),t0,t5];omega
def Cx {ah:World} {N O d:Nat} {q:Int} {f ag Y:Int} {ai:Bool} (h:PrQ ah w R hi Br N O d G s t (dC f ag ai Y 0 ύ 0) q) (ad:0<=q/\q<=255) (aw:d<G):
  Calls prog 291 #[γ G,γ d] w λe w'=>e= .returned (ι (q/64))/\PrQ ah w' R hi Br N O d G s t (dC f ag ai Y 0 (bit q 32) 0) q:=by
 obtain⟨h,J⟩:=h;obtain⟨aa,ab,aq⟩:=Hg ad;have ae:U64 q:=by unfold U64;omega
 have ac:(q/32%2==1)=bit q 32:=by unfold bit;rw[D2];simp
 have aj:=κ aa;have ak:=κ ab;have ap:=κ ac;have ar:=β0 J;have I:=κ h;have an:=κ J;obtain⟨ay,az⟩:=ad;have aA:q/64<=3:=by omega
 have aB:0<=q/64:=by omega
 clear h J aa ab aq ac;generalize q/64=q6 at *
 go_enter func291,ntmps291
 go_wp2_with first | (go_at_call 292;((with_reducible refine(QK q 5 1 ae (by unfold May;decide) _).mono ?_);rintro e w1 ⟨rfl,H,rfl⟩;rw[aj.o];have am:=κ ((I.o.on (ql.drewN _ H)).put8 7 (μ (bit q 32)));have U:=κ (qo (qb an.o H) ⟨d,7,ϋ⟩ (μ (bit q 32)) (by show G≠d;omega));have au:=qa (I.o.on (ql.drewN w H)).b8 7 (v:= μ ύ) rfl;have aC:=yw (I.o.on (ql.drewN w H)).b8 7;have ax:=ap.o;have av:=β0 U.o)) | (go_at_call 292;((with_reducible refine(QK q 6 2 ae (by unfold May;decide) _).mono ?_);rintro e w2 ⟨rfl,af,rfl⟩;rw[ak.o];have ao:=κ (am.o.on (ql.drewN _ af));have al:=κ (qb U.o af)))
 go_ret;exact⟨rfl,ao.o,al.o⟩
def FW {U:World} {H I J d:Nat} {q:Int} (h:PrQ U w R hi Br H I J d s t cs q) (ag:0<=q/\q<=255):
  Calls prog 293 #[γ d] w λe w'=>e= .returned (ι (q%32))/\PrQ U w' R hi Br H I J d s t cs q:=by
 obtain⟨h,G⟩:=h;obtain⟨ae,af,N⟩:=Hg ag;have ah:U64 q:=by unfold U64;omega
 have Y:=κ N;have ai:=β0 G;have ab:=κ h;have ad:=κ G;have aj:q%32<=31:=by omega
 have ak:0<=q%32:=by omega
 clear h G ae af N;generalize q%32=q5 at *
 go_enter func293,ntmps293
 go_wp2_with (go_at_call 292;((with_reducible refine(QK q 0 5 ah (by unfold May;decide) _).mono ?_);rintro e w1 ⟨rfl,O,rfl⟩;rw[Y.o];have ac:=κ (ab.o.on (ql.drewN _ O));have aa:=κ (qb ad.o O)))
 go_ret;exact⟨rfl,ac.o,aa.o⟩
def Lo {O:World} {d H:Nat} {f:Int} (h:PrS O w R hi Br d G H s t (dC f 0 ύ 0 0 ύ 0)) (Y:0<=t/\t<=255):
  Calls prog 288 #[υ 128,.func (.func 289) #[] #[γ d,γ H],γ G] w λe w'=>e= .returned (ι (gk t s).1.1)/\PrS O w' R hi Br d G H (gk t s).2 t (dC f 0 (gk t s).1.2 0 0 ύ 0):=by
 have aa:=β0 h.b7;have I:=κ h;have N:=(Zw Y).1;clear h;cases hb:bit t 128 with
 | false=>
  rw[hb,Ϗ η] at N;have e:gk t s=((-1,ύ),s):=by unfold gk;rw[hb,Ϗ η]
  rw[e];clear e hb
  go_enter func288,ntmps288
  go_wp2;go_ret;exact⟨rfl,I.o⟩
 | true=>
  rw[hb,ϓ rfl] at N;have e:gk t s=((CQ s,CO s),CS s):=by unfold gk CQ CS CO;rw[hb,ϓ rfl];by_cases hn:nB s<128<;>simp[hn]
  have E:=κ e;clear e hb
  go_enter func288,ntmps288
  go_wp2_with (go_at_call 289;((with_reducible refine(FK I.o).mono ?_);rintro e w1 ⟨rfl,J⟩;have U:=κ J;clear J))
  go_ret;rw[E.o];exact⟨rfl,U.o⟩
def Lp {O:World} {d H:Nat} (h:PrS O w R hi Br d G H s t cs) (Y:0<=t/\t<=255):
  Calls prog 288 #[υ 64,.func (.func 290) #[] #[γ d],γ G] w λe w'=>e= .returned (ι (Jl t s).1)/\PrS O w' R hi Br d G H (Jl t s).2 t cs:=by
 have aa:=β0 h.b7;have I:=κ h;have N:=(Zw Y).2.1;clear h;cases hb:bit t 64 with
 | false=>
  rw[hb,Ϗ η] at N;have e:Jl t s=(-1,s):=by unfold Jl;rw[hb,Ϗ η]
  rw[e];clear e hb
  go_enter func288,ntmps288
  go_wp2;go_ret;exact⟨rfl,I.o⟩
 | true=>
  rw[hb,ϓ rfl] at N;have e:Jl t s=(nB s,tkS s 1):=by unfold Jl;rw[hb,ϓ rfl]
  have E:=κ e;clear e hb
  go_enter func288,ntmps288
  go_wp2_with (go_at_call 290;((with_reducible refine(FZ I.o).mono ?_);rintro e w1 ⟨rfl,J⟩;have U:=κ J;clear J))
  go_ret;rw[E.o];exact⟨rfl,U.o⟩
def Gg {ab:World} {I H d:Nat} {q:Int} {f aa N:Int} {ac:Bool} (h:PrQ ab w R hi Br I H G d s t (dC f aa ac N 0 ύ 0) q) (ag:0<=t/\t<=255) (Y:0<=q/\q<=255) (af:G<d):
  Calls prog 288 #[υ 32,.func (.func 291) #[] #[γ d,γ G],γ H] w λe w'=>e= .returned (ι (if bit t 32 then q/64 else -1))/\PrQ ab w' R hi Br I H G d s t (dC f aa ac N 0 (bit t 32&&bit q 32) 0) q:=by
 have ah:=β0 h.1.b7;have J:=κ h;have U:=(Zw ag).2.2.1;have ae:=κ Y;clear h Y;cases hb:bit t 32 with
 | false=>
  rw[hb,Ϗ η] at U;rw[Ϗ η,J1];clear hb
  go_enter func288,ntmps288
  go_wp2;go_ret;exact⟨rfl,J.o⟩
 | true=>
  rw[hb,ϓ rfl] at U;rw[ϓ rfl,I9];clear hb
  go_enter func288,ntmps288
  go_wp2_with (go_at_call 291;((with_reducible refine(Cx J.o ae.o af).mono ?_);rintro e w1 ⟨rfl,O⟩;have ad:=κ O;clear O))
  go_ret;exact⟨rfl,ad.o⟩
def Ao {Y:World} {H I d:Nat} {q:Int} (h:PrQ Y w R hi Br H G I d s t cs q) (ac:0<=t/\t<=255) (U:0<=q/\q<=255):
  Calls prog 288 #[υ 16,.func (.func 293) #[] #[γ d],γ G] w λe w'=>e= .returned (ι (if bit t 16 then q%32 else -1))/\PrQ Y w' R hi Br H G I d s t cs q:=by
 have ad:=β0 h.1.b7;have J:=κ h;have O:=(Zw ac).2.2.2.1;have ab:=κ U;clear h U;cases hb:bit t 16 with
 | false=>
  rw[hb,Ϗ η] at O;rw[Ϗ η];clear hb
  go_enter func288,ntmps288
  go_wp2;go_ret;exact⟨rfl,J.o⟩
 | true=>
  rw[hb,ϓ rfl] at O;rw[ϓ rfl];clear hb
  go_enter func288,ntmps288
  go_wp2_with (go_at_call 293;((with_reducible refine(FW J.o ab.o).mono ?_);rintro e w1 ⟨rfl,N⟩;have aa:=κ N;clear N))
  go_ret;exact⟨rfl,aa.o⟩
def PrS.begin {w2:World} {b:List Int} (J:Z= #[μ ύ,ύ,υ 0,ι 0,ύ,ι 0,ι 0,ύ,ι 0]) (H:(w.alloc (.cells Z 390)).heap.size<=R)
  (r:qu w2 R b 0 (λg=>(w.alloc (.cells Z 390)).heap.size<=g/\g<w2.heap.size)) (m:ql (w.alloc (.cells Z 390)) w2):
  qu w2 R b 0 (λg=>g<w2.heap.size)/\ql w w2/\w2.heap[w.heap.size]? =ϊ (.cells Z 390 (0,0))/\w.heap.size<R/\R<w2.heap.size:=by
 have G:R<w2.heap.size:=by obtain⟨v,d,_⟩:=r.blk;exact qn d
 have I:(w.alloc (.cells Z 390)).heap.size=w.heap.size+1:=by simp
 exact⟨r.mono λg h=>h.2,X6.trans m,qq m (qj w _),τ,G⟩
structure PrP (w0 w:World) (R hi Br B5 B7:Nat) (s:RdS) (t:Int):Prop where
 rd:qu w R s.1 s.2 (λg=>g<hi)
 more:ql w0 w
 br:w.heap[Br]? =ϊ (.cells #[.bool ύ,.bool ύ,.int .u8 0,.int .i64 0,.bool ύ,.int .i64 0,.int .i64 0,.bool ύ,.int .i64 0] 390 (0,0))
 b5:w.heap[B5]? =ϊ (.cells #[.pointer (ϊ ⟨R,0,ϋ⟩)] 295 (0,0))
 b7:w.heap[B7]? =ϊ (.cells #[.int .u8 t] 5 (0,0))
 n0:w0.heap.size<=Br
 nR:Br<R
 n1:R<hi
 n5:hi<=B5
 n7:B5<B7
def PrP.step {d:Nat} (h:PrP H w R hi Br d G s t) (r:qu w' R s'.1 s'.2 (λg=>g<hi)) (a:jt (λb=>b=R) w w'):PrP H w' R hi Br d G s' t:=by
 have:=h.n0;have:=h.nR;have:=h.n1;have:=h.n5;have:=h.n7;exact⟨r,jt.to_more h.more a (λk I=>by omega),a.blk h.br τ,a.blk h.b5 τ,a.blk h.b7 τ,h.n0,h.nR,h.n1,h.n5,h.n7⟩
def PrP.put7 {d:Nat} (h:PrP H w R hi Br G d s t) (t':Int):PrP H (w.setCell ⟨d,0,ϋ⟩ (υ t')) R hi Br G d s t':=by
 have:=h.n0;have:=h.nR;have:=h.n1;have:=h.n5;have:=h.n7;have a:jt (λb=>b=d) w (w.setCell ⟨d,0,ϋ⟩ (υ t')):=(jt.refl (λb=>b=d) w).set (p:=⟨d,0,ϋ⟩) rfl _;exact⟨h.rd.off a τ (λg I e=>by omega),h.more.st (p:=⟨d,0,ϋ⟩) (by show _<=d;omega) _,a.blk h.br τ,a.blk h.b5 τ,qB (qp h.b7 0 _) rfl,h.n0,h.nR,h.n1,h.n5,h.n7⟩
def PrP.box {d:Nat} (h:PrP H w R hi Br d G s t) (cs:Array Value):PrS H (w.alloc (.cells cs 390)) R hi Br d G w.heap.size s t cs:=
 ⟨h.rd.more X6,h.more.al _,qs h.br _,qs h.b5 _,qs h.b7 _,qj w _,h.n0,h.nR,h.n1,h.n5,h.n7,qn h.b7⟩
def PrP.make {w2 d:World} {b:List Int} (J:qu w2 R b 0 (λg=>g<w2.heap.size)) (m:ql w w2) (H:w2.heap[Br]? =ϊ (.cells #[μ ύ,ύ,υ 0,ι 0,ύ,ι 0,ι 0,ύ,ι 0] 390 (0,0))) (n0:w.heap.size<=Br) (n1:Br<R) (n2:R<w2.heap.size)
  (r:qu d R s'.1 s'.2 (λg=>g<w2.heap.size)) (a:jt (λb=>b=R) (w2.alloc (.cells #[γ R] 295)) d):
  PrP w (d.alloc (.cells #[υ 0] 5)) R w2.heap.size Br w2.heap.size d.heap.size s' 0:=by
 have G:d.heap[w2.heap.size]? =_:=a.blk (qj w2 _) τ;refine⟨r.more X6,(jt.to_more (m.al _) a (λk I=> ?_)).al _,qs (a.blk (qs H _) τ) _,qs G _,qj _ _,n0,n1,n2,ϔ _,qn G⟩;omega
def PrQ.mk {J:World} {H I d:Nat} {q:Int} (h:PrS J w R hi Br G H I s t cs) (k:w.heap[d]? =ϊ (.cells #[ψ q] 170 (0,0))):PrQ J w R hi Br G H I d s t cs q:=⟨h,k⟩
def ql.st9 {G:World} (m:ql G w) (B:Nat) (d:G.heap.size<=B) (v0 H I v3 v4 v5 J N O:Value):
  ql G (((((((((w.setCell ⟨B,0,ϋ⟩ v0).setCell ⟨B,1,ϋ⟩ H).setCell ⟨B,2,ϋ⟩ I).setCell ⟨B,3,ϋ⟩ v3).setCell ⟨B,4,ϋ⟩ v4).setCell ⟨B,5,ϋ⟩ v5).setCell ⟨B,6,ϋ⟩ J).setCell ⟨B,7,ϋ⟩ N).setCell ⟨B,8,ϋ⟩ O):=
 ((((((((m.st (p:=⟨B,0,ϋ⟩) d v0).st (p:=⟨B,1,ϋ⟩) d H).st (p:=⟨B,2,ϋ⟩) d I).st (p:=⟨B,3,ϋ⟩) d v3).st (p:=⟨B,4,ϋ⟩) d v4).st (p:=⟨B,5,ϋ⟩) d v5).st (p:=⟨B,6,ϋ⟩) d J).st (p:=⟨B,7,ϋ⟩) d N).st (p:=⟨B,8,ϋ⟩) d O
def PrS.put10 {J:World} {H I d:Nat} (h:PrS J w R hi Br H I G s t cs) (N:G<d):PrS J (w.setCell ⟨d,0,ϋ⟩ v) R hi Br H I G s t cs:=by
 have:=h.n0;have:=h.nR;have:=h.n1;have:=h.n5;have:=h.n7;have:=h.n8;have a:jt (λb=>b=d) w (w.setCell ⟨d,0,ϋ⟩ v):=(jt.refl (λb=>b=d) w).set (p:=⟨d,0,ϋ⟩) rfl _;exact⟨h.rd.off a τ (λg O e=>by omega),h.more.st (p:=⟨d,0,ϋ⟩) (by show _<=d;omega) _,a.blk h.br τ,a.blk h.b5 τ,a.blk h.b7 τ,a.blk h.b8 τ,h.n0,h.nR,h.n1,h.n5,h.n7,h.n8⟩
def kz (v:Value) (b:List Int) (w:World) (bE:SlI .u8 w v b) (aQ:Byt b) (bU:b.length<=1000000):
  Calls prog 247 #[v] w λe w'=>e= .returned (.tuple #[θ #[μ (qW b).1.lo,μ (qW b).1.st,υ (qW b).1.pt,ι (qW b).1.pic,μ (qW b).1.wd,ι (qW b).1.bs,ι (qW b).1.tr,μ (qW b).1.sy,ι (qW b).1.ky],ι (qW b).2.1,ι (qW b).2.2])/\ql w w':=by
 have bh:=κ (bE.keep (ql.alloc w (.cells #[μ ύ,ύ,υ 0,ι 0,ύ,ι 0,ι 0,ύ,ι 0] 390)));have ar:0<=nB (b,0)/\nB (b,0)<=255:=Zt (s:=(b,0)) aQ;obtain⟨cu,co,rfl,aR⟩:=bE;clear aR;have bT:=(JW ar).1;have cp:=(JW ar).2.2.1;have cq:=(JW ar).2.2.2;have cr:=(Zw ar).2.2.2.2.1;have ai:num (tkB b 1)=nB (b,0):=rfl;have am:=κ ai;clear ai;generalize bt:nB (b,0)=f at *;have ao:=κ bt;clear bt
 go_enter func247,ntmps247
 go_upto_if 18 with (first | (go_at_call 154;(go_call NV _ b _ bh.o aQ bU as e w2 ⟨R,rfl,bo,bw,bu⟩;obtain⟨bB,bA,bi,n1,n2⟩:=PrS.begin rfl bo bw bu;have ay:=κ bB;have bJ:=κ bA;have aX:=κ bi;clear bw bu bB bA bi bo;have aS:=β0 (qj w2 (.cells #[γ R] 295)))) | (go_at_call 155;(go_call jT (ay.o.more X6) as e ca ⟨rfl,bC,a3⟩;rw[am.o];have ac:=κ (PrP.make ay.o bJ.o aX.o (ϔ _) n1 n2 (s':=tkS (b,0) 1) bC a3);clear bC a3)))
 generalize w2.heap.size=hi at *;generalize ca.heap.size=B7 at *;have bX:=β0 ac.o.b5;have aV:=β0 ac.o.b7;have bj:0<=(headD (b,0)).2.1/\(headD (b,0)).2.1<=255:=by
  unfold headD;split
  ·exact Zt (s:=tkS (b,0) 1) (aQ.drop _)
  ·exact⟨η,η⟩
 have ab:=κ bj;clear bj
 go_cut [] from 18 (λaT=>PrP w aT R hi w.heap.size hi B7 (headD (b,0)).2.2 (headD (b,0)).2.1)
 case first=>
  cases hbt:bit f 128 with
  | false=>
   have e:headD (b,0)=(f,0,tkS (b,0) 1):=by unfold headD;rw[ao.o,hbt,Ϗ η]
   have I:=κ e;clear e;go_wp2;go_meet;rw[I.o];exact ac.o
  | true=>
   have e:headD (b,0)=(f,nB (tkS (b,0) 1),tkS (tkS (b,0) 1) 1):=by unfold headD;rw[ao.o,hbt,ϓ rfl]
   have I:=κ e;clear e
   go_wp2_with (go_at_call 155;(go_call jT ac.o.rd as e w4 ⟨rfl,au,a4⟩;have bH:=κ ((ac.o.step (s':=tkS (tkS (b,0) 1) 1) au a4).put7 (nB (tkS (b,0) 1)));have bF:=yw (ac.o.step (s':=tkS (tkS (b,0) 1) 1) au a4).b7 0;have cy:=qa (ac.o.step (s':=tkS (tkS (b,0) 1) 1) au a4).b7 0 (v:= υ 0) rfl;clear au a4))
   go_meet;rw[I.o];exact bH.o
 case rest=>
  have bq:(headD (b,0)).1=f:=by rw[<-ao.o];unfold headD;split<;>rfl
  have aa:qW b=DE b.length (Zs (headD (b,0)).1 (headD (b,0)).2.1 (headD (b,0)).2.2):=rfl;rw[bq] at aa;have aY:=κ hcut;have bd:=κ aa;clear hcut aa bq ac ay aX aS bX aV am ao bh;generalize (headD (b,0)).2.1=t at *;generalize (headD (b,0)).2.2=s at *;obtain⟨t0,t1⟩:=ab.o;have ae:=(Zw ab.o).2.2.2.2.2;have ba:=κ ae;clear ae bT;have bf:Hid (PrS w (wc.alloc (.cells #[μ (bit f 32),(bit f 16),υ (f%8),ι 0,ύ,ι 0,ι 0,ύ,ι 0] 390)) R hi w.heap.size hi B7 wc.heap.size s t (dC f 0 ύ 0 0 ύ 0)):=κ (aY.o.box _);generalize bm:gk t s=P at *;generalize bn:Jl t P.2=Q at *;generalize bk:QP t Q.2=Bo at *;have bb:=κ bm;have bc:=κ bn;have an:=κ bk;clear bm bn bk;obtain⟨⟨pic,wd⟩,s1⟩:=P;obtain⟨bs,s2⟩:=Q;obtain⟨q,H⟩:=Bo
  have bI:Hid (Byt s2.1->0<=q/\q<=255):=κ (λbV=>by
   have e:=an.o;unfold QP at e;split at e
   ·cases e;exact Zt bV
   ·cases e;exact⟨ζ,ζ⟩)
  go_upto_if 41 with (first | (go_at_call 288;((with_reducible refine(Lo bf.o ab.o).mono ?_);rintro e w5 ⟨rfl,aj⟩;rw[bb.o] at aj ⊢;have bg:Hid (PrS w (w5.setCell ⟨wc.heap.size,3,ϋ⟩ (ι pic)) R hi w.heap.size hi B7 wc.heap.size s1 t (dC f pic wd 0 0 ύ 0)):=κ (aj.put8 3 (ι pic));have cb:=β3 aj.b8;have z3:=yw aj.b8 3;clear aj)) | (go_at_call 288;((with_reducible refine(Lp bg.o ab.o).mono ?_);rintro e w6 ⟨rfl,ak⟩;rw[bc.o] at ak ⊢;have ap:Hid (PrS w (w6.setCell ⟨wc.heap.size,5,ϋ⟩ (ι bs)) R hi w.heap.size hi B7 wc.heap.size s2 t (dC f pic wd bs 0 ύ 0)):=κ (ak.put8 5 (ι bs));have cc:=β5 ak.b8;have z5:=yw ak.b8 5;have G:=κ (ap.o.on (ql.alloc _ (.cells #[ψ 0] 170)));have aV:=β0 G.o.b7;clear ak cb z3)))
  have ad:=κ (qj (w6.setCell ⟨wc.heap.size,5,ϋ⟩ (ι bs)) (.cells #[ψ 0] 170));have bv:=bI.o ap.o.rd.byt;have af:=κ bv;have aq:wc.heap.size<(w6.setCell ⟨wc.heap.size,5,ϋ⟩ (ι bs)).heap.size:=qn ap.o.b8;clear bv;generalize (w6.setCell ⟨wc.heap.size,5,ϋ⟩ (ι bs)).alloc (.cells #[ψ 0] 170)=W7 at *;have bz:(w6.setCell ⟨wc.heap.size,5,ϋ⟩ (ι bs)).heap.size=w6.heap.size:=by simp
  rw[bz] at ad aq;generalize w6.heap.size=N10 at *;generalize wc.heap.size=B8 at *;clear bf bg ap cc z5 bz aY;have aS:=β0 G.o.b5
  go_cut [] from 41 (λaT=>PrQ w aT R hi w.heap.size hi B7 B8 N10 H t (dC f pic wd bs 0 ύ 0) q)
  case first=>
   cases hbt:(bit t 32||bit t 16) with
   | false=>
    have e:=an.o;unfold QP at e;rw[hbt,Ϗ η] at e;have ae:=ba.o;rw[hbt] at ae;have I:Hid (0=q/\s2=H):=κ (by cases e;exact⟨rfl,rfl⟩);clear e hbt;go_wp2;go_meet;rw[<-I.o.1,<-I.o.2];exact⟨G.o,ad.o⟩
   | true=>
    have e:=an.o;unfold QP at e;rw[hbt,ϓ rfl] at e;have ae:=ba.o;rw[hbt] at ae;have I:Hid (nB s2=q/\tkS s2 1=H):=κ (by cases e;exact⟨rfl,rfl⟩);have ai:num (tkB s2.1 1)=q:=I.o.1;have am:=κ ai;obtain⟨cv,cw⟩:=af.o;clear e hbt ai
    go_wp2_with (go_at_call 155;(go_call jT G.o.rd as e w8 ⟨rfl,bD,Y⟩;rw[am.o];have ag:=κ (G.o.step (s':=tkS s2 1) bD Y);have bG:=κ (Y.blk ad.o (by have:=G.o.n1;have:=G.o.n5;have:=G.o.n7;have:=G.o.n8;omega));have cz:=yw (Y.blk ad.o (by have:=G.o.n1;have:=G.o.n5;have:=G.o.n7;have:=G.o.n8;omega)) 0;have cx:=β0 (Y.blk ad.o (by have:=G.o.n1;have:=G.o.n5;have:=G.o.n7;have:=G.o.n8;omega));clear bD Y))
    go_meet;rw[<-I.o.2];exact⟨ag.o.put10 aq,qB (qp bG.o 0 _) rfl⟩
  case rest=>
   have ag:=κ hcut;clear hcut aS aV ad G;have bx:Zs f t s=(mkD f t (pic,wd) bs q,H):=by unfold Zs;rw[bb.o];simp only[bc.o,an.o]
   have be:=κ bx;clear bx;obtain⟨J,bp⟩: ∃J,J=(if bit t 32 then q/64 else -1):=⟨_,rfl⟩;obtain⟨U,bl⟩: ∃U,U=(if bit t 16 then q%32 else -1):=⟨_,rfl⟩;have az:=κ bp;have ax:=κ bl;clear bp bl;obtain⟨aw,al⟩:=ν ((if ¬H.2=0 then H.2 else if 0<H.1.length then 4 else 0));have aZ:=κ al;have aR:=ag.o.1.rd.small;by_cases he:H.2=3
   ·have bW:aw=3:=by rw[<-al,he];rfl
    have aa:qW b=(ds0,0,3):=by rw[bd.o,be.o];unfold DE;rw[ϓ he]
    subst bW;have I:=κ aa;clear he al aa aR
    go_wp2_with first | (go_at_call 288;((with_reducible refine(Gg ag.o ab.o af.o aq).mono ?_);rintro e w9 ⟨rfl,O⟩;rw[<-az.o];obtain⟨O,ah⟩:=O;have aA:Hid (PrS w (w9.setCell ⟨B8,6,ϋ⟩ (ι J)) R hi w.heap.size hi B7 B8 H t (dC f pic wd bs J (bit t 32&&bit q 32) 0)):=κ (O.put8 6 (ι J));have av:=κ (qo ah ⟨B8,6,ϋ⟩ (ι J) (by show N10≠B8;omega));have aU:=β6 O.b8;have aW:=yw O.b8 6;clear O ah)) | (go_at_call 288;((with_reducible refine(Ao (PrQ.mk aA.o av.o) ab.o af.o).mono ?_);rintro e w10 ⟨rfl,N⟩;rw[<-ax.o];obtain⟨N,aG⟩:=N;have d:Hid (PrS w (w10.setCell ⟨B8,8,ϋ⟩ (ι U)) R hi w.heap.size hi B7 B8 H t (dC f pic wd bs J (bit t 32&&bit q 32) U)):=κ (N.put8 8 (ι U));have cd:=β8 N.b8;have bF:=yw N.b8 8;have ce:=β0 d.o.b5;clear N aG aU aW)) | (go_at_call 160;(go_call zn d.o.rd as e bY ⟨rfl,rfl⟩)) | (go_at_call 162;(go_call yT d.o.rd as e bZ ⟨rfl,rfl⟩;rw[aZ.o];have aH:=β0 d.o.br;have cf:=yw d.o.br 0;have aI:=β1 d.o.br;have cg:=yw d.o.br 1;have aJ:=β2 d.o.br;have ch:=yw d.o.br 2;have aK:=β3 d.o.br;have ci:=yw d.o.br 3;have aL:=β4 d.o.br;have cj:=yw d.o.br 4;have aM:=β5 d.o.br;have ck:=yw d.o.br 5;have aN:=β6 d.o.br;have cl:=yw d.o.br 6;have aO:=β7 d.o.br;have cm:=yw d.o.br 7;have aP:=β8 d.o.br;have cn:=yw d.o.br 8;have bK:=β0 d.o.b8;have bL:=β1 d.o.b8;have bM:=β2 d.o.b8;have bN:=β3 d.o.b8;have bO:=β4 d.o.b8;have bP:=β5 d.o.b8;have bQ:=β6 d.o.b8;have bR:=β7 d.o.b8;have bS:=β8 d.o.b8))
    (refine bodyPost_ret (v:= .tuple #[θ #[μ ύ,ύ,υ 0,ι 0,ύ,ι 0,ι 0,ύ,ι 0],ι 0,ι 3]) ?rr1 rfl ?_;(case rr1=>(simp[results,results247,go_sem,aH,aI,aJ,aK,aL,aM,aN,aO,aP])))
    have aB:=κ (λa0 aC aD a3 a4 a5 aE aF Y=>ql.st9 d.o.more w.heap.size (ϔ _) a0 aC aD a3 a4 a5 aE aF Y);refine⟨by rw[I.o];rfl, ?_⟩;exact aB.o _ _ _ _ _ _ _ _ _
   ·have ct:(aw==3)=ύ:=by
     have: ¬aw=3:=by
      rw[<-al];split
      ·exact he
      ·split<;>decide
     simpa using this
    have aa:qW b=(mkD f t (pic,wd) bs q,(b.length:Int)-H.1.length,0):=by rw[bd.o,be.o];unfold DE;rw[Ϗ he]
    have I:=κ aa;clear he al aa
    go_wp2_with first | (go_at_call 288;((with_reducible refine(Gg ag.o ab.o af.o aq).mono ?_);rintro e w9 ⟨rfl,O⟩;rw[<-az.o];obtain⟨O,ah⟩:=O;have aA:Hid (PrS w (w9.setCell ⟨B8,6,ϋ⟩ (ι J)) R hi w.heap.size hi B7 B8 H t (dC f pic wd bs J (bit t 32&&bit q 32) 0)):=κ (O.put8 6 (ι J));have av:=κ (qo ah ⟨B8,6,ϋ⟩ (ι J) (by show N10≠B8;omega));have aU:=β6 O.b8;have aW:=yw O.b8 6;clear O ah)) | (go_at_call 288;((with_reducible refine(Ao (PrQ.mk aA.o av.o) ab.o af.o).mono ?_);rintro e w10 ⟨rfl,N⟩;rw[<-ax.o];obtain⟨N,aG⟩:=N;have d:Hid (PrS w (w10.setCell ⟨B8,8,ϋ⟩ (ι U)) R hi w.heap.size hi B7 B8 H t (dC f pic wd bs J (bit t 32&&bit q 32) U)):=κ (N.put8 8 (ι U));have cd:=β8 N.b8;have bF:=yw N.b8 8;have ce:=β0 d.o.b5;clear N aG aU aW)) | (go_at_call 160;(go_call zn d.o.rd as e bY ⟨rfl,rfl⟩)) | (go_at_call 162;(go_call yT d.o.rd as e bZ ⟨rfl,rfl⟩;rw[aZ.o];have aH:=β0 d.o.br;have cf:=yw d.o.br 0;have aI:=β1 d.o.br;have cg:=yw d.o.br 1;have aJ:=β2 d.o.br;have ch:=yw d.o.br 2;have aK:=β3 d.o.br;have ci:=yw d.o.br 3;have aL:=β4 d.o.br;have cj:=yw d.o.br 4;have aM:=β5 d.o.br;have ck:=yw d.o.br 5;have aN:=β6 d.o.br;have cl:=yw d.o.br 6;have aO:=β7 d.o.br;have cm:=yw d.o.br 7;have aP:=β8 d.o.br;have cn:=yw d.o.br 8;have bK:=β0 d.o.b8;have bL:=β1 d.o.b8;have bM:=β2 d.o.b8;have bN:=β3 d.o.b8;have bO:=β4 d.o.b8;have bP:=β5 d.o.b8;have bQ:=β6 d.o.b8;have bR:=β7 d.o.b8;have bS:=β8 d.o.b8))
    (refine bodyPost_ret (v:= .tuple #[θ #[μ (bit f 32),(bit f 16),υ (f%8),ι pic,wd,ι bs,ι J,(bit t 32&&bit q 32),ι U],ι ((b.length:Int)-H.1.length),ι 0]) ?rr2 rfl ?_;(case rr2=>(simp[results,results247,go_sem,aH,aI,aJ,aK,aL,aM,aN,aO,aP])))
    have aB:=κ (λa0 aC aD a3 a4 a5 aE aF Y=>ql.st9 d.o.more w.heap.size (ϔ _) a0 aC aD a3 a4 a5 aE aF Y);refine⟨by rw[I.o,az.o,ax.o];rfl, ?_⟩;exact aB.o _ _ _ _ _ _ _ _ _
def PH (s:RdS):(headD s).2.2.1.length<=s.1.length:=by
 have d: ∀s:RdS,(tkS s 1).1.length<=s.1.length:=λs=>by unfold tkS tkL;rw[Ϭ];omega
 unfold headD;split
 ·exact ϙ (d _) (d _)
 ·exact d _
def Es (b:List Int):0<=(qW b).2.1/\(qW b).2.1<=b.length:=by
 have d:=PH (b,0);have G:=GI (headD (b,0)).1 (headD (b,0)).2.1 (headD (b,0)).2.2;unfold qW DE;split
 ·exact⟨O4 _,η⟩
 ·simp only at d ⊢;omega
def Jg (v:Value) (b:List Int) (w:World) (ap:SlI .u8 w v b) (N:Byt b) (ac:b.length<=1000000):
  Calls prog 190 #[v] w λe w'=>e= .returned (μ (zJ b))/\ql w w':=by
 have J:=κ ap;have ao:=Es b;have G:zJ b=(decide ((qW b).2.2=0)&&(qW b).1.st&&decide ((qW b).1.pt=0)&&decide ((qW b).2.1<b.length)&&decide (b.getD (qW b).2.1.toNat 0%2=0)):=rfl;obtain⟨aC,ax,rfl,_,O,_⟩:=ap;obtain⟨aq,aj⟩:=ν ((qW b).1.st);obtain⟨am,ai⟩:=ν ((qW b).1.pt);obtain⟨ad,ae⟩:=ν ((qW b).2.1);obtain⟨ak,ah⟩:=ν ((qW b).2.2);rw[ae] at ao;rw[aj,ai,ae,ah] at G;have ab:=κ aj;have aa:=κ ai;have Y:=κ ae;have U:=κ ah;obtain⟨n0,n1⟩:=ao;clear aj ai ae ah;by_cases h1:ak=0
 ·cases aq with
  | false=>
   have H:Hid (zJ b=ύ):=κ (by rw[G];simp);subst h1;clear G O n0 n1
   go_enter func190,ntmps190
   go_wp2_with (go_at_call 247;(go_call kz _ b _ J.o N ac as e w2 ⟨rfl,d⟩;have I:=κ d;have af:=κ ((J.o.keep d).keep (ql.alloc _ (.cells #[μ (qW b).1.lo,μ (qW b).1.st,υ (qW b).1.pt,ι (qW b).1.pic,μ (qW b).1.wd,ι (qW b).1.bs,ι (qW b).1.tr,μ (qW b).1.sy,ι (qW b).1.ky] 390)));clear d;rw[ab.o,aa.o,Y.o,U.o]))
   go_ret;exact⟨by rw[H.o];try rfl,I.o.al _⟩
  | true=>
   by_cases h2:am=0
   ·by_cases h3:ad<b.length
    ·obtain⟨k,rfl⟩: ∃k:Nat,ad=k:=⟨ad.toNat,τ⟩;have aw:k<b.length:=by omega
     obtain⟨ag,off,rfl,an,au⟩:=O k aw;have ar:=N k;have H:Hid (zJ b=decide (b.getD k 0%2=0)):=κ (by rw[G,ϻ h1,ϻ h2,ϻ h3];simp);have av: ¬(b.length:Int)<=(k:Int):=by omega
     subst h1 h2;clear G O n0 n1;generalize b.getD k 0=x at *;obtain⟨aD,aE⟩:=ar
     go_enter func190,ntmps190
     go_wp2_with (go_at_call 247;(go_call kz _ b _ J.o N ac as e w2 ⟨rfl,d⟩;have I:=κ d;rw[ab.o,aa.o,Y.o,U.o];have aB:w2.cell? ⟨ag,off+k,ϋ⟩=ϊ (υ x):=(by rw[d.cells ag _ an];exact au);have aA:ag<w2.heap.size:=ϗ an d.size;clear d))
     go_ret;exact⟨by rw[H.o];first | rfl | (congr 2;rw[D2];simp),I.o.al _⟩
    ·have H:Hid (zJ b=ύ):=κ (by rw[G,ϯ h3];simp);have av:(b.length:Int)<=ad:=by omega
     subst h1 h2;clear G O n0 n1
     go_enter func190,ntmps190
     go_wp2_with (go_at_call 247;(go_call kz _ b _ J.o N ac as e w2 ⟨rfl,d⟩;have I:=κ d;have af:=κ ((J.o.keep d).keep (ql.alloc _ (.cells #[μ (qW b).1.lo,μ (qW b).1.st,υ (qW b).1.pt,ι (qW b).1.pic,μ (qW b).1.wd,ι (qW b).1.bs,ι (qW b).1.tr,μ (qW b).1.sy,ι (qW b).1.ky] 390)));clear d;rw[ab.o,aa.o,Y.o,U.o]))
     go_ret;exact⟨by rw[H.o];try rfl,I.o.al _⟩
   ·have H:Hid (zJ b=ύ):=κ (by rw[G,ϯ h2];simp);have az:(am != 0)=ό:=by simpa using h2
    subst h1;clear G O n0 n1 h2
    go_enter func190,ntmps190
    go_wp2_with (go_at_call 247;(go_call kz _ b _ J.o N ac as e w2 ⟨rfl,d⟩;have I:=κ d;have af:=κ ((J.o.keep d).keep (ql.alloc _ (.cells #[μ (qW b).1.lo,μ (qW b).1.st,υ (qW b).1.pt,ι (qW b).1.pic,μ (qW b).1.wd,ι (qW b).1.bs,ι (qW b).1.tr,μ (qW b).1.sy,ι (qW b).1.ky] 390)));clear d;rw[ab.o,aa.o,Y.o,U.o]))
    go_ret;exact⟨by rw[H.o];try rfl,I.o.al _⟩
 ·have H:Hid (zJ b=ύ):=κ (by rw[G,ϯ h1];simp);have ay:(ak != 0)=ό:=by simpa using h1
  clear G O n0 n1 h1
  go_enter func190,ntmps190
  go_wp2_with (go_at_call 247;(go_call kz _ b _ J.o N ac as e w2 ⟨rfl,d⟩;have I:=κ d;have af:=κ ((J.o.keep d).keep (ql.alloc _ (.cells #[μ (qW b).1.lo,μ (qW b).1.st,υ (qW b).1.pt,ι (qW b).1.pic,μ (qW b).1.wd,ι (qW b).1.bs,ι (qW b).1.tr,μ (qW b).1.sy,ι (qW b).1.ky] 390)));clear d;rw[ab.o,aa.o,Y.o,U.o]))
  go_ret;exact⟨by rw[H.o];try rfl,I.o.al _⟩
def IY: ∀m:Fin 256,bits .and .u8 (m.val:Int) 127=(m.val:Int)%128/\bits .and .u8 (m.val:Int) 15=(m.val:Int)%16:=Ϧ ξ
def Gd (h:0<=x/\x<=255):bits .and .u8 x 127=x%128/\bits .and .u8 x 15=x%16:=by
 obtain⟨m,rfl⟩:=A4 h.1;exact IY ⟨m,τ⟩
structure HdS (w0 w:World) (R hi Br Bd:Nat) (s:RdS) (q:Pk) (vs ve vp:Value):Prop where
 rd:qu w R s.1 s.2 (λg=>g<hi)
 more:ql w0 w
 br:w.heap[Br]? =ϊ (.cells #[.bool ύ,.int .u8 0,.int .u16 0,.int .u32 0,.int .u32 0,.slice ϋ 0 0,.bool ύ,.int .u16 0,.slice ϋ 0 0,.slice ϋ 0 0] 133 (0,0))
 bd:w.heap[Bd]? =ϊ (.cells #[.bool q.mr,.int .u8 q.ty,.int .u16 q.sq,.int .u32 q.st,.int .u32 q.sc,vs,.bool q.has,.int .u16 q.pr,ve,vp] 133 (0,0))
 rs:w.ownsRow (Bd+1) 69 1 vs q.ss.length (q.ss.map (Value.int .u32))
 re:w.ownsRow (Bd+1) 5 1 ve q.ex.length (q.ex.map (Value.int .u8))
 rp:w.ownsRow (Bd+1) 5 1 vp q.pl.length (q.pl.map (Value.int .u8))
 n0:w0.heap.size<=Br
 nR:Br<R
 n1:R<hi
 n5:hi<=Bd
def HdS.step {I:World} {Bd:Nat} {H G vp:Value} (h:HdS I w R hi Br Bd s q H G vp) (r:qu w' R s'.1 s'.2 (λg=>g<hi)) (a:jt (λb=>b=R) w w'):HdS I w' R hi Br Bd s' q H G vp:=by
 have:=h.n0;have:=h.nR;have:=h.n1;have:=h.n5;exact⟨r,jt.to_more h.more a (λk d=>by omega),a.blk h.br τ,a.blk h.bd τ,xC h.rs a (λk d=>by omega),xC h.re a (λk d=>by omega),xC h.rp a (λk d=>by omega),h.n0,h.nR,h.n1,h.n5⟩
def HdS.on {Bd:Nat} {G vp:Value} (h:HdS H w R hi Br Bd s q G d vp) (m:ql w w'):HdS H w' R hi Br Bd s q G d vp:=
 ⟨h.rd.more m,h.more.trans m,qq m h.br,qq m h.bd,jE h.rs m,jE h.re m,jE h.rp m,h.n0,h.nR,h.n1,h.n5⟩
def HdS.fill {N:World} {Bd:Nat} {q':Pk} {J I vp G vp':Value} (h:HdS N w R hi Br Bd s q J I vp) (i:Nat) (v:Value)
  (O:((Γq q J I vp):Array Value).setIfInBounds i v= (Γq q' G d vp'))
  (rs:w.ownsRow (Bd+1) 69 1 G q'.ss.length (q'.ss.map (Value.int .u32))) (U:w.ownsRow (Bd+1) 5 1 d q'.ex.length (q'.ex.map (Value.int .u8))) (Y:w.ownsRow (Bd+1) 5 1 vp' q'.pl.length (q'.pl.map (Value.int .u8))):
  HdS N (w.setCell ⟨Bd,i,ϋ⟩ v) R hi Br Bd s q' G d vp':=by
 have:=h.n0;have:=h.nR;have:=h.n1;have:=h.n5;have a:jt (λb=>b=Bd) w (w.setCell ⟨Bd,i,ϋ⟩ v):=(jt.refl (λb=>b=Bd) w).set (p:=⟨Bd,i,ϋ⟩) rfl _;exact⟨h.rd.off a τ (λg aa e=>by omega),h.more.st (p:=⟨Bd,i,ϋ⟩) (by show _<=Bd;omega) _,a.blk h.br τ,qB (qp h.bd i v) O,xC rs a (λk H=>by omega),xC U a (λk H=>by omega),xC Y a (λk H=>by omega),h.n0,h.nR,h.n1,h.n5⟩
def HdS.scal {Bd:Nat} {G vp:Value} (h:HdS H w R hi Br Bd s q G d vp) (i:Nat) (v:Value) (q':Pk)
  (O:((Γq q G d vp):Array Value).setIfInBounds i v= (Γq q' G d vp)) (I:q'.ss=q.ss) (J:q'.ex=q.ex) (N:q'.pl=q.pl):HdS H (w.setCell ⟨Bd,i,ϋ⟩ v) R hi Br Bd s q' G d vp:=
 h.fill i v O (by rw[I];exact h.rs) (by rw[J];exact h.re) (by rw[N];exact h.rp)
def HdS.begin {w2:World} {b:List Int} (H:Z= Γc) (I:(w.alloc (.cells Z 133)).heap.size<=R)
  (r:qu w2 R b 0 (λg=>(w.alloc (.cells Z 133)).heap.size<=g/\g<w2.heap.size)) (m:ql (w.alloc (.cells Z 133)) w2):
  HdS w (w2.alloc (.cells Γc 133)) R w2.heap.size w.heap.size w2.heap.size (b,0) pk0 (δ ϋ 0 0) (δ ϋ 0 0) (δ ϋ 0 0):=by
 subst H;have G:R<w2.heap.size:=by obtain⟨v,d,_⟩:=r.blk;exact qn d
 have J:(w.alloc (.cells Γc 133)).heap.size=w.heap.size+1:=by simp
 exact⟨(r.mono λg h=>h.2).more X6,(X6.trans m).al _,qs (qq m (qj w _)) _,qj w2 _,World.ownsRow_nil _ _ _ _,World.ownsRow_nil _ _ _ _,World.ownsRow_nil _ _ _ _,ϔ _,τ,G,ϔ _⟩
def Pf {G:Option Addr} {m cap:Nat} (h:w.ownsRow base e 1 (δ G m cap) l.length (l.map (Value.int k))) (O:n<=l.length) (ac:0<l.length):w.ownsRow base e 1 (δ G n cap) (l.take n).length ((l.take n).map (Value.int k)):=by
 obtain⟨ad,I⟩:=h;have d:(l.take n).length=n:=by rw[Ϥ];omega
 rcases I with ⟨_,ae⟩ | ⟨g,ab,cur,H,J,N,af,aa,U,Y⟩
 ·omega
 ·cases H;refine⟨η,ϕ ⟨g,_,cur,by rw[d],J,N,by rw[d];omega,aa,U, ?_⟩⟩;rw[d,V6,List.map_take,<-Y,P8,V6,Nat.min_eq_left O]
def XK (N:Option Addr) (cap:Nat) (b:List Int) (base:Nat) (w:World) (h:w.ownsRow base 5 1 (δ N b.length cap) b.length (b.map (Value.int .u8))) (ad:Byt b) (ak:b.length<=1000000):
  Calls prog 161 #[δ N b.length cap] w λe w'=>(∃v,e= .returned (.tuple #[v,μ (xL b).2])/\w.ownsRow base 5 1 v (xL b).1.length ((xL b).1.map (Value.int .u8)))/\w=w':=by
 have O:=κ h;obtain⟨ao,af,ab,am,d,G,_⟩:=SlI.of_owns h τ;cases ab;have J:(∃v,(Ending.returned (.tuple #[δ ϋ 0 0,ύ]))= .returned (.tuple #[v,ύ])/\w.ownsRow base 5 1 v ([]:List Int).length (([]:List Int).map (Value.int .u8))):=⟨_,rfl,World.ownsRow_nil _ _ _ _⟩;have I:=κ J;clear J;by_cases h0:b.length=0
 ·have e:xL b=([],ύ):=by unfold xL;rw[ϓ (K4.1 h0)]
  rw[e];have ac:(b.length:Int)=0:=by omega
  clear d h e G
  go_enter func161,ntmps161
  go_wp2
  go_ret2
  exact⟨I.o,rfl⟩
 ·obtain⟨aa,off,rfl,ag,ah⟩:=d (b.length-1) τ;have ae:=ad (b.length-1);have ac:((b.length:Int)==0)=ύ:=by rw[beq_eq_false_iff_ne];omega
  have H: ¬b=[]:=λe=>h0 (by rw[e];rfl)
  have e:xL b=if b.getD (b.length-1) 0=0∨(b.length:Int)<b.getD (b.length-1) 0 then ([],ύ) else (b.take (b.length-(b.getD (b.length-1) 0).toNat),ό):=by unfold xL;rw[Ϗ H]
  have hi:((b.length:Int)-1).toNat=b.length-1:=by omega
  have al:(b.length:Int)-1<(b.length:Int):=by omega
  have ai:0<=(b.length:Int)-1:=by omega
  have aj:1<=(b.length:Int):=by omega
  generalize b.getD (b.length-1) 0=x at *;obtain⟨ap,aq⟩:=ae;by_cases hx0:x=0
  ·rw[ϓ (ϑ hx0)] at e;rw[e];subst hx0;clear d h e G h0 H
   go_enter func161,ntmps161
   go_wp2
   go_ret2
   exact⟨I.o,rfl⟩
  ·have an:(x==0)=ύ:=by simpa using hx0
   by_cases hxl:(b.length:Int)<x
   ·rw[ϓ (ϕ hxl)] at e;rw[e];clear d h e G h0 H hx0
    go_enter func161,ntmps161
    go_wp2
    go_ret2
    exact⟨I.o,rfl⟩
   ·rw[Ϗ τ] at e;rw[e];have s1:(b.length:Int)-x<=(cap:Int):=by omega
    have s2:((b.length:Int)-x).toNat=b.length-x.toNat:=by omega
    have U:=κ (Pf O.o (n:=b.length-x.toNat) τ τ);have Y:=κ s2;clear d h e h0 H hx0 G
    go_enter func161,ntmps161
    go_wp2
    go_ret2
    exact⟨⟨δ (ϊ ⟨aa,off,ϋ⟩) (b.length-x.toNat) cap,by first | rfl | rw[Y.o],by have:=U.o;rw[Ϥ,List.map_take,Nat.min_eq_left (Nat.sub_le _ _)] at this;exact this⟩,rfl⟩
def HdS.grow {Bd:Nat} {vs v':Value} (h:HdS w0 w R hi Br Bd s q vs (δ ϋ 0 0) (δ ϋ 0 0)) (he:q.ex=[]) (hp:q.pl=[]) (ho:w'.ownsRow (Bd+1) 69 1 v' l.length (l.map (Value.int .u32))) (g:w.grownBy w' vs.ownBlock):
  HdS w0 (w'.setCell ⟨Bd,5,ϋ⟩ v') R hi Br Bd s {q with ss:=l} v' (δ ϋ 0 0) (δ ϋ 0 0):=by
 have h0:=h.n0;have h1:=h.nR;have h2:=h.n1;have h5:=h.n5;have hge: ∀z,vs.ownBlock=ϊ z->Bd+1<=z:=λz hz=>jG h.rs hz
 have aG:jt (λz=>vs.ownBlock=ϊ z) w w':=⟨g.os,g.tape,g.output,g.size,λk hk hs=>g.block k hk (λe=>hs e.symm)⟩;have a:jt (λb=>b=Bd) w' (w'.setCell ⟨Bd,5,ϋ⟩ v'):=(jt.refl (λb=>b=Bd) w').set (p:=⟨Bd,5,ϋ⟩) rfl _;have hR: ¬vs.ownBlock=ϊ R:=λe=>by have:=hge R e;omega
 have hBr: ¬vs.ownBlock=ϊ Br:=λe=>by have:=hge Br e;omega
 have hBd: ¬vs.ownBlock=ϊ Bd:=λe=>by have:=hge Bd e;omega
 refine⟨(h.rd.off aG hR (λz hz e=>by have:=hge z e;omega)).off a τ (λz hz e=>by omega), ?_,a.blk (aG.blk h.br hBr) τ,qB (qp (aG.blk h.bd hBd) 5 v') rfl,xC ho a (λk hk=>by omega), ?_, ?_,h.n0,h.nR,h.n1,h.n5⟩
 ·exact(jt.to_more h.more aG (λk hk=>by have:=hge k hk;omega)).st (p:=⟨Bd,5,ϋ⟩) (by show _<=Bd;omega) _
 ·show World.ownsRow _ _ _ _ _ q.ex.length (q.ex.map _);rw[he];exact World.ownsRow_nil _ _ _ _
 ·show World.ownsRow _ _ _ _ _ q.pl.length (q.pl.map _);rw[hp];exact World.ownsRow_nil _ _ _ _
def ql.st10 (m:ql w0 w) (B:Nat) (hB:w0.heap.size<=B) (v0 v1 v2 v3 v4 v5 v6 v7 v8 v9:Value):
  ql w0 ((((((((((w.setCell ⟨B,0,ϋ⟩ v0).setCell ⟨B,1,ϋ⟩ v1).setCell ⟨B,2,ϋ⟩ v2).setCell ⟨B,3,ϋ⟩ v3).setCell ⟨B,4,ϋ⟩ v4).setCell ⟨B,5,ϋ⟩ v5).setCell ⟨B,6,ϋ⟩ v6).setCell ⟨B,7,ϋ⟩ v7).setCell ⟨B,8,ϋ⟩ v8).setCell ⟨B,9,ϋ⟩ v9):=
 (((((((((m.st (p:=⟨B,0,ϋ⟩) hB v0).st (p:=⟨B,1,ϋ⟩) hB v1).st (p:=⟨B,2,ϋ⟩) hB v2).st (p:=⟨B,3,ϋ⟩) hB v3).st (p:=⟨B,4,ϋ⟩) hB v4).st (p:=⟨B,5,ϋ⟩) hB v5).st (p:=⟨B,6,ϋ⟩) hB v6).st (p:=⟨B,7,ϋ⟩) hB v7).st (p:=⟨B,8,ϋ⟩) hB v8).st (p:=⟨B,9,ϋ⟩) hB v9
def Di (w:World) (B:Nat) (v0 v1 v2 v3 v4 v5 v6 v7 v8 v9:Value):
  jt (λb=>b=B) w ((((((((((w.setCell ⟨B,0,ϋ⟩ v0).setCell ⟨B,1,ϋ⟩ v1).setCell ⟨B,2,ϋ⟩ v2).setCell ⟨B,3,ϋ⟩ v3).setCell ⟨B,4,ϋ⟩ v4).setCell ⟨B,5,ϋ⟩ v5).setCell ⟨B,6,ϋ⟩ v6).setCell ⟨B,7,ϋ⟩ v7).setCell ⟨B,8,ϋ⟩ v8).setCell ⟨B,9,ϋ⟩ v9):=
 ((((((((((jt.refl (λb=>b=B) w).set (p:=⟨B,0,ϋ⟩) rfl v0).set (p:=⟨B,1,ϋ⟩) rfl v1).set (p:=⟨B,2,ϋ⟩) rfl v2).set (p:=⟨B,3,ϋ⟩) rfl v3).set (p:=⟨B,4,ϋ⟩) rfl v4).set (p:=⟨B,5,ϋ⟩) rfl v5).set (p:=⟨B,6,ϋ⟩) rfl v6).set (p:=⟨B,7,ϋ⟩) rfl v7).set (p:=⟨B,8,ϋ⟩) rfl v8).set (p:=⟨B,9,ϋ⟩) rfl v9
def KQ (l:List Int) (e:Int):tkB l (l.length:Int)=l/\tkL l (l.length:Int)=[]/\tkE l (l.length:Int) e=e:=by
 refine⟨?_, ?_, ?_⟩
 ·unfold tkB;simp
 ·unfold tkL;simp
 ·unfold tkE;rw[Ϗ τ]
def kP (h:w.ownsRow base e 1 v n xs):(n:Int)<=9223372036854775807:=by
 rcases h.2 with ⟨-,rfl⟩ | ⟨g,cap,cur,-,-,-,h1,h2,-⟩
 ·omega
 ·unfold maxLen at h2;omega
def AO {t:TypeId} {a1 a2 a5 a6 a7 a8 a9:Value} (h:w.heap[B]? =ϊ (.cells #[a0,a1,a2,a3,a4,a5,a6,a7,a8,a9] t (0,0))) (v0 v1 v2 v3 v4 v5 v6 v7 v8 v9:Value):
  ((((((((((w.setCell ⟨B,0,ϋ⟩ v0).setCell ⟨B,1,ϋ⟩ v1).setCell ⟨B,2,ϋ⟩ v2).setCell ⟨B,3,ϋ⟩ v3).setCell ⟨B,4,ϋ⟩ v4).setCell ⟨B,5,ϋ⟩ v5).setCell ⟨B,6,ϋ⟩ v6).setCell ⟨B,7,ϋ⟩ v7).setCell ⟨B,8,ϋ⟩ v8).setCell ⟨B,9,ϋ⟩ v9).heap[B]? =ϊ (.cells #[v0,v1,v2,v3,v4,v5,v6,v7,v8,v9] t (0,0)):=
 by
 have h:=qB (cs':= #[v0,a1,a2,a3,a4,a5,a6,a7,a8,a9]) (qp h 0 v0) rfl;have h:=qB (cs':= #[v0,v1,a2,a3,a4,a5,a6,a7,a8,a9]) (qp h 1 v1) rfl;have h:=qB (cs':= #[v0,v1,v2,a3,a4,a5,a6,a7,a8,a9]) (qp h 2 v2) rfl;have h:=qB (cs':= #[v0,v1,v2,v3,a4,a5,a6,a7,a8,a9]) (qp h 3 v3) rfl;have h:=qB (cs':= #[v0,v1,v2,v3,v4,a5,a6,a7,a8,a9]) (qp h 4 v4) rfl;have h:=qB (cs':= #[v0,v1,v2,v3,v4,v5,a6,a7,a8,a9]) (qp h 5 v5) rfl;have h:=qB (cs':= #[v0,v1,v2,v3,v4,v5,v6,a7,a8,a9]) (qp h 6 v6) rfl;have h:=qB (cs':= #[v0,v1,v2,v3,v4,v5,v6,v7,a8,a9]) (qp h 7 v7) rfl;have h:=qB (cs':= #[v0,v1,v2,v3,v4,v5,v6,v7,v8,a9]) (qp h 8 v8) rfl;have h:=qB (cs':= #[v0,v1,v2,v3,v4,v5,v6,v7,v8,v9]) (qp h 9 v9) rfl;exact h
def YK {t:TypeId} {a1 a2 a5 a6 a7 a8 a9:Value} (h:w.heap[B]? =ϊ (.cells #[a0,a1,a2,a3,a4,a5,a6,a7,a8,a9] t (0,0))):w.cell? ⟨B,0,ϋ⟩=ϊ a0/\w.cell? ⟨B,1,ϋ⟩=ϊ a1/\w.cell? ⟨B,2,ϋ⟩=ϊ a2/\w.cell? ⟨B,3,ϋ⟩=ϊ a3/\w.cell? ⟨B,4,ϋ⟩=ϊ a4/\w.cell? ⟨B,5,ϋ⟩=ϊ a5/\w.cell? ⟨B,6,ϋ⟩=ϊ a6/\w.cell? ⟨B,7,ϋ⟩=ϊ a7/\w.cell? ⟨B,8,ϋ⟩=ϊ a8/\w.cell? ⟨B,9,ϋ⟩=ϊ a9:=
 ⟨qa h 0 rfl,qa h 1 rfl,qa h 2 rfl,qa h 3 rfl,qa h 4 rfl,qa h 5 rfl,qa h 6 rfl,qa h 7 rfl,qa h 8 rfl,qa h 9 rfl⟩
def ID {t:TypeId} {a1 a2 a5 a6 a7 a8 a9:Value} (h:w.heap[B]? =ϊ (.cells #[a0,a1,a2,a3,a4,a5,a6,a7,a8,a9] t (0,0))):w.frozen? ⟨B,0,ϋ⟩=ύ/\w.frozen? ⟨B,1,ϋ⟩=ύ/\w.frozen? ⟨B,2,ϋ⟩=ύ/\w.frozen? ⟨B,3,ϋ⟩=ύ/\w.frozen? ⟨B,4,ϋ⟩=ύ/\w.frozen? ⟨B,5,ϋ⟩=ύ/\w.frozen? ⟨B,6,ϋ⟩=ύ/\w.frozen? ⟨B,7,ϋ⟩=ύ/\w.frozen? ⟨B,8,ϋ⟩=ύ/\w.frozen? ⟨B,9,ϋ⟩=ύ:=
 ⟨yw h 0,yw h 1,yw h 2,yw h 3,yw h 4,yw h 5,yw h 6,yw h 7,yw h 8,yw h 9⟩
def WD {t:TypeId} {a1 a2 a5 a6 a7 a8 a9:Value} (m:ql w0 w) (hB:w0.heap.size<=B) (h:w.heap[B]? =ϊ (.cells #[a0,a1,a2,a3,a4,a5,a6,a7,a8,a9] t (0,0))) (v0 v1 v2 v3 v4 v5 v6 v7 v8 v9:Value):
  ∃WF,((((((((((w.setCell ⟨B,0,ϋ⟩ v0).setCell ⟨B,1,ϋ⟩ v1).setCell ⟨B,2,ϋ⟩ v2).setCell ⟨B,3,ϋ⟩ v3).setCell ⟨B,4,ϋ⟩ v4).setCell ⟨B,5,ϋ⟩ v5).setCell ⟨B,6,ϋ⟩ v6).setCell ⟨B,7,ϋ⟩ v7).setCell ⟨B,8,ϋ⟩ v8).setCell ⟨B,9,ϋ⟩ v9)=WF/\ql w0 WF/\jt (λb=>b=B) w WF/\WF.cell? ⟨B,0,ϋ⟩=ϊ v0/\WF.cell? ⟨B,1,ϋ⟩=ϊ v1/\WF.cell? ⟨B,2,ϋ⟩=ϊ v2/\WF.cell? ⟨B,3,ϋ⟩=ϊ v3/\WF.cell? ⟨B,4,ϋ⟩=ϊ v4/\WF.cell? ⟨B,5,ϋ⟩=ϊ v5/\WF.cell? ⟨B,6,ϋ⟩=ϊ v6/\WF.cell? ⟨B,7,ϋ⟩=ϊ v7/\WF.cell? ⟨B,8,ϋ⟩=ϊ v8/\WF.cell? ⟨B,9,ϋ⟩=ϊ v9:=
 ⟨_,rfl,m.st10 B hB v0 v1 v2 v3 v4 v5 v6 v7 v8 v9,Di w B v0 v1 v2 v3 v4 v5 v6 v7 v8 v9,YK (AO h v0 v1 v2 v3 v4 v5 v6 v7 v8 v9)⟩
def yS (r:Pk×Int) (w:World) (e:Ending) (w':World):Prop:=
 ∃vs ve vp,e= .returned (.tuple #[.agg #[.bool r.1.mr,.int .u8 r.1.ty,.int .u16 r.1.sq,.int .u32 r.1.st,.int .u32 r.1.sc,vs,.bool r.1.has,.int .u16 r.1.pr,ve,vp],.int .i64 r.2])/\PkS w' vs ve vp r.1/\ql w w'/\ ∀b,(vs.ownBlock=ϊ b∨ve.ownBlock=ϊ b∨vp.ownBlock=ϊ b)->w.heap.size<=b
def VB (b:Nat) (h:(δ ϋ 0 0).ownBlock=ϊ b∨(δ ϋ 0 0).ownBlock=ϊ b∨(δ ϋ 0 0).ownBlock=ϊ b):w.heap.size<=b:=by
 rcases h with h | h | h<;>cases h
def JH (h:Byt s.1) (k:Nat) (hk:k<=4):0<=num (tkB s.1 k)/\num (tkB s.1 k)<2 ^ (8* k):=zv (tkB s.1 k) k (jL h k) (zh s.1 k τ) τ
def s9H (f:Int) (s:RdS):RdS:=if bit f 32 then (if (xL s.1).2 then ([],s.2) else wrS ([],s.2) 2) else ([],s.2)
def l9H (f:Int) (s:RdS):List Int:=if bit f 32 then (xL s.1).1 else s.1
def Ek {f:Int} {s:RdS} (h:Jm s):(s9H f s).2=(vB f s).2/\(s9H f s).1=[]/\((vB f s).2=0->l9H f s=(vB f s).1):=by
 obtain⟨l,e⟩:=s;unfold s9H vB l9H bit;by_cases he:e=0
 ·subst he;by_cases h1:f/32%2=1
  ·simp only[h1,decide_true,C1,not_true,D4];by_cases h2:(xL l).2=ό
   ·simp[h2]
   ·simp only[h2];unfold wrS;simp
  ·simp[h1]
 ·have hl:l=[]:=h he;subst hl;by_cases h1:f/32%2=1
  ·have hu:(xL []).2=ύ:=rfl;simp[h1,hu,wrS,he]
  ·simp[h1,he]
def Jc (v:Value) (b:List Int) (w:World) (sl:SlI .u8 w v b) (hl:(200:Int)<b.length):
  Calls prog 127 #[v] w (yS (jl b) w):=by
 have e:jl b=(pk0,4):=by unfold jl;rw[ϓ hl]
 rw[e];obtain⟨ob,cb,rfl,_⟩:=sl;clear e
 go_enter func127,ntmps127
 go_wp2
 (refine bodyPost_ret (v:= .tuple #[Γc,ι 4]) ?rr1 rfl ?_;(case rr1=>(simp[results,results127,go_sem])))
 refine⟨δ ϋ 0 0,δ ϋ 0 0,δ ϋ 0 0,rfl,⟨SlI.nil _ _,SlI.nil _ _,SlI.nil _ _⟩, ?_,VB⟩;exact ql.alloc _ _
def Qd (v:Value) (b:List Int) (w:World) (sl:SlI .u8 w v b) (hb:Byt b) (hl: ¬(200:Int)<b.length):
  Calls prog 127 #[v] w (yS (jl b) w):=by
 obtain⟨i0,hi',hz0,hz1,hz2⟩:=info_parts (P:=prog) (e:=69) (z:= ω 0) (size:=1) (bytes:=4) ξ;have SL:=κ (sl.keep (ql.alloc w (.cells Γc 133)));have hrd:jl b=JJ b (yj (fH b) (yy (fH b) (s5H b))):=by unfold jl;rw[Ϗ hl]
 have b1:Byt (s1H b).1:=hb.drop _;have b2:Byt (s2H b).1:=b1.drop _;have b3:Byt (s3H b).1:=b2.drop _;have b4:Byt (s4H b).1:=b3.drop _;have u1:=JH (s:=(b,0)) hb 1 ζ;have u2:=JH b1 1 ζ;obtain⟨f,hf⟩:=ν (fH b);obtain⟨g,hg⟩:=ν (gH b);obtain⟨sq,hsq⟩: ∃x,num (tkB (s2H b).1 2)=x:=⟨_,rfl⟩;obtain⟨st,hst⟩: ∃x,num (tkB (s3H b).1 4)=x:=⟨_,rfl⟩;obtain⟨sc,hsc⟩: ∃x,num (tkB (s4H b).1 4)=x:=⟨_,rfl⟩;have f0:0<=f/\f<=255:=by rw[<-hf];have h1:num (tkB b 1)<256:=u1.2;have h0:0<=num (tkB b 1):=u1.1;unfold fH;omega
 have g0:0<=g/\g<=255:=by rw[<-hg];have h1:num (tkB (s1H b).1 1)<256:=u2.2;have h0:0<=num (tkB (s1H b).1 1):=u2.1;unfold gH;omega
 have E1:Hid (num (tkB b 1)=f):=κ hf;have E2:Hid (num (tkB (s1H b).1 1)=g):=κ hg;have E3:=κ hsq;have E4:=κ hst;have E5:=κ hsc;have hga:=(Gd g0).1;have hfa:=(Gd f0).2;have hfb:=(JW f0).2.2.2;have hfc:=(JW f0).2.2.1;have hmk: ∀x l,mkH b x l=⟨decide (128<=g),g%128,sq,st,sc,x.1,bit f 16,x.2.1,x.2.2,l⟩:=λx l=>by unfold mkH bit;rw[hf,hg,hsq,hst,hsc]
 have hen: ∀x,JJ b x=if (vB f x.2).2=0 then (mkH b x.1 (vB f x.2).1,0) else (pk0,(vB f x.2).2):=λx=>by unfold JJ;rw[hf]
 rw[hf] at hrd;obtain⟨S6,hS6⟩:=ν (yy f (s5H b));have hsh6:Jm S6:=by
  rw[<-hS6];have h5:Jm (s5H b):=by rw[WI];exact vj _ _
  unfold yy wrS;split
  ·split
   ·exact h5
   ·intro _;rfl
  ·exact h5
 rw[hS6] at hrd;rw[hrd,hen,hmk];obtain⟨X,hX⟩:=ν (yj f S6);rw[hX];obtain⟨⟨L7,P7,X7⟩,S8⟩:=X;have hx0:(L7=(j9 (f%16).toNat S6).1)/\(bit f 16=ό->P7=(Qj (j9 (f%16).toNat S6).2).1.1/\X7=(Qj (j9 (f%16).toNat S6).2).1.2/\S8=(Qj (j9 (f%16).toNat S6).2).2)/\(bit f 16=ύ->P7=0/\X7=[]/\S8=(j9 (f%16).toNat S6).2):=by
  unfold yj at hX;unfold bit;by_cases h1:f/16%2=1
  ·rw[ϓ h1] at hX;cases hX;simp[h1]
  ·rw[Ϗ h1] at hX;cases hX;simp[h1]
 clear hX;have HS6:=κ hS6;obtain⟨f0,f1⟩:=f0;obtain⟨g0,g1⟩:=g0;have hs9t:bit f 32=ό->s9H f S8=(if (xL S8.1).2 then ([],S8.2) else wrS ([],S8.2) 2)/\l9H f S8=(xL S8.1).1:=λh=>by unfold s9H l9H;simp[h]
 have hs9f:bit f 32=ύ->s9H f S8=([],S8.2)/\l9H f S8=S8.1:=λh=>by unfold s9H l9H;simp[h]
 have hs9p:=λh=> @Ek f S8 h
 obtain⟨S9,hS9⟩:=ν (s9H f S8);obtain⟨L9,hL9⟩:=ν (l9H f S8);obtain⟨FH,hFH⟩:=ν (bit f 16);obtain⟨FP,hFP⟩:=ν (bit f 32);rw[hS9,hL9,hFP] at hs9t hs9f;rw[hS9,hL9] at hs9p;rw[hFH] at hx0 hfb ⊢;rw[hFP] at hfc;obtain⟨PL,hPL⟩:=ν ((vB f S8).1);obtain⟨PE,hPE⟩:=ν ((vB f S8).2);rw[hPL,hPE] at hs9p ⊢;have H9T:=κ hs9t;have H9F:=κ hs9f;have H9P:=κ hs9p;clear hs9t hs9f hs9p hS9 hL9 hFH hFP hPL hPE;obtain⟨QR,hQR⟩: ∃QR:Pk×Int,(if PE=0 then (Pk.mk (decide (128<=g)) (g%128) sq st sc L7 FH P7 X7 PL,(0:Int)) else (pk0,PE))=QR:=⟨_,rfl⟩;rw[hQR];obtain⟨ob,cb,rfl,-⟩:=sl;have hgm:0<=g%128/\g%128<=127:=by omega
 obtain⟨NS,hNS⟩: ∃NS:Nat,f%16=(NS:Int):=⟨(f%16).toNat,τ⟩;have hns15:NS<=15:=by omega
 have hnst:(f%16).toNat=NS:=by omega
 rw[hNS] at hfa;rw[hnst] at hx0;have HX0:=κ hx0;clear hx0;have HNST:=κ hnst;clear hrd b1 b2 b3 b4 u1 u2 hf hg hsq hst hsc hmk hen hS6 hsh6 hNS hnst;obtain⟨GM,hGM⟩:=ν (g%128);rw[hGM] at hga hgm hQR;have HQ:=κ hQR;clear hQR;obtain⟨gm0,gm1⟩:=hgm;clear hGM;have hb200:b.length<=1000000:=by omega
 go_enter func127,ntmps127
 go_upto_region 10 with (first | (go_at_call 154;(go_call NV _ b _ SL.o hb hb200 as e w2 ⟨R,rfl,hR,hr,hm⟩;have H0:=κ (HdS.begin rfl hR hr hm);clear hR hr hm)) | (go_at_call 155;((with_reducible refine(jT H0.o.rd).mono ?_);rintro e w3 ⟨rfl,r3,a3⟩;rw[E1.o];have H1:=κ (H0.o.step (s':=s1H b) r3 a3);clear r3 a3)) | (go_at_call 155;((with_reducible refine(jT H1.o.rd).mono ?_);rintro e w4 ⟨rfl,r4,a4⟩;rw[E2.o];have H2:=κ (H1.o.step (s':=s2H b) r4 a4);clear r4 a4;have x0:=β0 H2.o.bd;have z0:=yw H2.o.bd 0;have x1:=β1 H2.o.bd;have z1:=yw H2.o.bd 1;have H3:Hid (HdS w ((w4.setCell ⟨w2.heap.size,0,ϋ⟩ (μ (decide (128<=g)))).setCell ⟨w2.heap.size,1,ϋ⟩ (υ GM)) R w2.heap.size w.heap.size w2.heap.size (s2H b) ⟨(decide (128<=g)),GM,0,0,0,[],ύ,0,[],[]⟩ (δ ϋ 0 0) (δ ϋ 0 0) (δ ϋ 0 0)):=κ ((H2.o.scal 0 (μ (decide (128<=g))) ⟨(decide (128<=g)),0,0,0,0,[],ύ,0,[],[]⟩ rfl rfl rfl rfl).scal 1 (υ GM) ⟨(decide (128<=g)),GM,0,0,0,[],ύ,0,[],[]⟩ rfl rfl rfl rfl))) | (go_at_call 156;(go_call xn H3.o.rd as e w5 ⟨rfl,r5,a5⟩;rw[E3.o];have H4:=κ (H3.o.step (s':=s3H b) r5 a5);clear r5 a5 x0 z0 x1 z1;have x2:=β2 H4.o.bd;have z2:=yw H4.o.bd 2;have H5:Hid (HdS w (w5.setCell ⟨w2.heap.size,2,ϋ⟩ (φ sq)) R w2.heap.size w.heap.size w2.heap.size (s3H b) ⟨(decide (128<=g)),GM,sq,0,0,[],ύ,0,[],[]⟩ (δ ϋ 0 0) (δ ϋ 0 0) (δ ϋ 0 0)):=κ (H4.o.scal 2 (φ sq) ⟨(decide (128<=g)),GM,sq,0,0,[],ύ,0,[],[]⟩ rfl rfl rfl rfl))) | (go_at_call 157;((with_reducible refine(jD H5.o.rd).mono ?_);rintro e w6 ⟨rfl,r6,a6⟩;rw[E4.o];have H6:=κ (H5.o.step (s':=s4H b) r6 a6);clear r6 a6 x2 z2;have x3:=β3 H6.o.bd;have z3:=yw H6.o.bd 3;have H7:Hid (HdS w (w6.setCell ⟨w2.heap.size,3,ϋ⟩ (ω st)) R w2.heap.size w.heap.size w2.heap.size (s4H b) ⟨(decide (128<=g)),GM,sq,st,0,[],ύ,0,[],[]⟩ (δ ϋ 0 0) (δ ϋ 0 0) (δ ϋ 0 0)):=κ (H6.o.scal 3 (ω st) ⟨(decide (128<=g)),GM,sq,st,0,[],ύ,0,[],[]⟩ rfl rfl rfl rfl))) | (go_at_call 157;((with_reducible refine(jD H7.o.rd).mono ?_);rintro e w7 ⟨rfl,r7,a7⟩;rw[E5.o];have H8:=κ (H7.o.step (s':=s5H b) r7 a7);clear r7 a7 x3 z3;have x4:=β4 H8.o.bd;have z4:=yw H8.o.bd 4;have H9:Hid (HdS w (w7.setCell ⟨w2.heap.size,4,ϋ⟩ (ω sc)) R w2.heap.size w.heap.size w2.heap.size (s5H b) ⟨(decide (128<=g)),GM,sq,st,sc,[],ύ,0,[],[]⟩ (δ ϋ 0 0) (δ ϋ 0 0) (δ ϋ 0 0)):=κ (H8.o.scal 4 (ω sc) ⟨(decide (128<=g)),GM,sq,st,sc,[],ύ,0,[],[]⟩ rfl rfl rfl rfl))))
 generalize w7.setCell ⟨w2.heap.size,4,ϋ⟩ (ω sc)=W9 at *;generalize w2.heap.size=hi at *;clear H0 H1 H2 H3 H4 H5 H6 H7 H8 x4 z4 SL E1 E2 E3 E4 E5;obtain⟨FB,fb1,fb2⟩: ∃FB:Bool,(FB=ό->(f<128∨191<f))/\(FB=ύ-> ¬(f<128∨191<f)):=⟨decide (f<128∨191<f),λh=>by simpa using h,λh=>by simpa using h⟩;have FB1:=κ fb1;have FB2:=κ fb2;clear fb1 fb2
 go_cut [46] from 41 (λs46 wx=>s46= μ FB/\wx=W9)
 case first=>
  cases FB with
  | true=>
   have hh:=FB1.o η;by_cases h1:f<128
   ·clear hh;go_wp2;go_meet;exact⟨rfl,rfl⟩
   ·have h2:191<f:=by omega
    clear hh;go_wp2;go_meet;exact⟨rfl,rfl⟩
  | false=>
   have hh:=FB2.o η;have h1: ¬f<128:=by omega
   have h2: ¬191<f:=by omega
   clear hh;go_wp2;go_meet;exact⟨rfl,rfl⟩
 case rest=>
 obtain⟨rfl,rfl⟩:=hcut
 go_upto_if 46 with fail
 go_cut [] from 47 (λwx=>HdS w wx R hi w.heap.size hi S6 ⟨(decide (128<=g)),GM,sq,st,sc,[],ύ,0,[],[]⟩ (δ ϋ 0 0) (δ ϋ 0 0) (δ ϋ 0 0))
 case first=>
  cases FB with
  | true=>
   have hS:yy f (s5H b)=wrS (s5H b) 2:=by unfold yy;rw[ϓ (FB1.o η)]
   have HX:=κ (HS6.o.symm.trans hS);clear hS
   go_wp2_with (go_at_call 158;(go_call zo H9.o.rd 2 as e w10 ⟨rfl,r10,a10⟩;have H10:=κ (H9.o.step (s':=wrS (s5H b) 2) r10 a10);clear r10 a10))
   go_meet;rw[HX.o];exact H10.o
  | false=>
   have hS:yy f (s5H b)=s5H b:=by unfold yy;rw[Ϗ (FB2.o η)]
   have HX:=κ (HS6.o.symm.trans hS);clear hS;go_wp2;go_meet;rw[HX.o];exact H9.o
 case rest=>
 have HC:=κ hcut;clear hcut H9 FB1 FB2 HS6;go_wp2
 go_loopw [51] (λi wr=> ∃k:Nat,k<=NS/\i= υ k/\ ∃vs,HdS w wr R hi w.heap.size hi (j9 k S6).2 ⟨(decide (128<=g)),GM,sq,st,sc,(j9 k S6).1,ύ,0,[],[]⟩ vs (δ ϋ 0 0) (δ ϋ 0 0)) (λi _=>NS-(intOf i).toNat)
 case atStart=>exact⟨0,τ,rfl,_,HC.o⟩
 case round=>
  obtain⟨k,hk,rfl,vs,hwx⟩:=hrel;have HW:=κ hwx;by_cases hlt:k<NS
  ·have hki:(k:Int)<(NS:Int):=by omega
   have hll:=gN k S6;have HLL:=κ hll;obtain⟨os,ns,cs,rfl,hns,_⟩:=qfO hwx.rs;subst hns;have hbd: ¬(hi=R∨(δ os (j9 k S6).1.length cs).ownBlock=ϊ hi):=by
    rintro(e | e)
    ·have:=HW.o.n1;omega
    ·have:=jG HW.o.rs e;omega
   have C5:=λ(x:qz (λb=>b=R∨(δ os (j9 k S6).1.length cs).ownBlock=ϊ b) wr)=>β5 (x.h.blk HW.o.bd hbd)
   clear hwx hll
   go_wp2_with fail
   refine QN (λb=>b=R∨(δ os (j9 k S6).1.length cs).ownBlock=ϊ b) wr 7 8 [3,4,5,7] ?_
   refine Qs3 ?_
   (refine Ql ?_;intro K hK)
   refine(jD (HW.o.rd.more (ql.drewN _ 1))).mono ?_;rintro e w8 ⟨rfl,r8,a8⟩;have a8':jt (λb=>b=R∨(δ os (j9 k S6).1.length cs).ownBlock=ϊ b) wr w8:=((jt.refl _ _).drewN _).trans (a8.mono λb h=>ϑ h);refine⟨_,rfl,qi a8',hK _ _ ?_⟩;clear hK K
   (refine Ql ?_;intro K hK)
   have a9:=a8'.more (ql.alloc w8 (.cells #[ω (num (tkB (j9 k S6).2.1 4))] 69));refine⟨qi a9,hK _ _ ?_⟩;clear hK K;have J8:=(HW.o.on (ql.drewN wr 1)).step (s':=tkS (j9 k S6).2 4) r8 a8;have J9:=J8.on (ql.alloc w8 (.cells #[ω (num (tkB (j9 k S6).2.1 4))] 69))
   (refine jR rfl rfl ?_;intro K hK)
   refine XU (.tmp 54) (.tmp 57) 131 rfl (hi+1) 69 i0 (ω 0) 4 underlying131 hi' hz0 hz1 hz2 rfl (δ os (j9 k S6).1.length cs) .u32 (j9 k S6).1 rfl J9.rs (δ (ϊ ⟨w8.heap.size,0,ϋ⟩) 1 1) [num (tkB (j9 k S6).2.1 4)] rfl (SlI.of_owns (World.ownsRow_lit (e:=69) (size:=1) (base:=w8.heap.size) w8 #[ω (num (tkB (j9 k S6).2.1 4))] 1 (ϔ _) (by unfold maxLen;omega) rfl) η) (by rw[HLL.o];simp;omega) ζ (by have:=qn J9.bd;omega) ?_;intro v10 w10 ho10 hg10 hb10;have a10:jt (λb=>b=R∨(δ os (j9 k S6).1.length cs).ownBlock=ϊ b) wr w10:=a9.trans ⟨hg10.os,hg10.tape,hg10.output,hg10.size,λk hk hs=>hg10.block k hk (λe=>hs (ϕ e.symm))⟩;have J10:=κ (J9.grow rfl rfl ho10 hg10);have q5:w10.cell? ⟨hi,5,ϋ⟩=ϊ (δ os (j9 k S6).1.length cs):=by
    have:w10.heap[hi]? =_:=(hg10.block hi (qn J9.bd) (λe=>by have:=jG J9.rs e.symm;omega)).trans J9.bd;exact qa this 5 rfl
   have z5:w10.frozen? ⟨hi,5,ϋ⟩=ύ:=by
    have:w10.heap[hi]? =_:=(hg10.block hi (qn J9.bd) (λe=>by have:=jG J9.rs e.symm;omega)).trans J9.bd;exact yw this 5
   obtain⟨o10,n10,c10,rfl,hz8,hz9⟩:=qfO ho10;clear hz8 hz9 ho10 hg10 hb10;refine⟨qi a10,hK _ _ ?_⟩;clear hK K;go_simp
   iterate 1 (refine qE rfl rfl (qi a10) ?_;intro K hK;go_big_quiet_op;go_big_quiet_on)
   (refine Qe ?_;intro K hK)
   refine hK _ _ ?_;clear hK K;refine qA ?_;go_wp2;go_roundw
   case rel=>exact⟨k+1,τ,by go_num,_,J10.o⟩
   case measure=>simp[intOf];omega
  ·obtain rfl:k=NS:=by omega
   have hki: ¬(k:Int)<(k:Int):=by omega
   clear hwx HC hk hlt;obtain⟨hx1,hx2,hx3⟩:=HX0.o;have hw:=HW.o;rw[<-hx1] at hw;obtain⟨S7,hS7⟩:=ν ((j9 k S6).2);rw[hS7] at hw hx2 hx3;have b7:=hw.rd.byt;have u7:=JH (s:=S7) b7 2 ζ;have u8:=JH (s:=tkS S7 2) (b7.drop _) 2 ζ;unfold Qj at hx2;obtain⟨N7,hN7⟩: ∃x,num (tkB S7.1 2)=x:=⟨_,rfl⟩;obtain⟨N8,hN8⟩: ∃x,num (tkB (tkS S7 2).1 2)=x:=⟨_,rfl⟩;have u7:0<=num (tkB S7.1 2)/\num (tkB S7.1 2)<65536:=u7;have u8:0<=num (tkB (tkS S7 2).1 2)/\num (tkB (tkS S7 2).1 2)<65536:=u8;rw[hN7] at hx2 u7;rw[hN8] at hx2 u8;obtain⟨u70,u71⟩:=u7;obtain⟨u80,u81⟩:=u8;have EN7:=κ hN7;have EN8:=κ hN8;have HB:=κ hw;have HX2:=κ hx2;have HX3:=κ hx3;clear hw hx1 hx2 hx3 hS7 HW HX0 b7 hN7 hN8 HNST;have x6:=β6 HB.o.bd;have z6:=yw HB.o.bd 6;have H1:Hid (HdS w (wr.setCell ⟨hi,6,ϋ⟩ (μ FH)) R hi w.heap.size hi S7 ⟨(decide (128<=g)),GM,sq,st,sc,L7,FH,0,[],[]⟩ vs (δ ϋ 0 0) (δ ϋ 0 0)):=κ (HB.o.scal 6 (μ FH) ⟨(decide (128<=g)),GM,sq,st,sc,L7,FH,0,[],[]⟩ rfl rfl rfl rfl)
   go_upto_if 66 with fail
   go_cut [] from 67 (λwx=> ∃ve,HdS w wx R hi w.heap.size hi S8 ⟨(decide (128<=g)),GM,sq,st,sc,L7,FH,P7,X7,[]⟩ vs ve (δ ϋ 0 0))
   case first=>
    cases FH with
    | false=>
     go_wp2;go_meet;obtain⟨e1,e2,e3⟩:=HX3.o η;rw[e1,e2,e3];exact⟨_,H1.o⟩
    | true=>
     go_wp2_with (first | (go_at_call 156;((with_reducible refine(xn H1.o.rd).mono ?_);rintro e wa ⟨rfl,ra,aa⟩;rw[EN7.o];have H2:=κ (H1.o.step (s':=tkS S7 2) ra aa);clear ra aa x6 z6;have x7:=β7 H2.o.bd;have z7:=yw H2.o.bd 7;have H3:Hid (HdS w (wa.setCell ⟨hi,7,ϋ⟩ (φ N7)) R hi w.heap.size hi (tkS S7 2) ⟨(decide (128<=g)),GM,sq,st,sc,L7,ό,N7,[],[]⟩ vs (δ ϋ 0 0) (δ ϋ 0 0)):=κ (H2.o.scal 7 (φ N7) ⟨(decide (128<=g)),GM,sq,st,sc,L7,ό,N7,[],[]⟩ rfl rfl rfl rfl))) | (go_at_call 156;((with_reducible refine(xn H3.o.rd).mono ?_);rintro e wb ⟨rfl,rb,ab⟩;rw[EN8.o];have H4:=κ (H3.o.step (s':=tkS (tkS S7 2) 2) rb ab);clear rb ab x7 z7)) | (go_at_call 159;(go_call QI (4* N8) H4.o.rd as e we ⟨v8,rfl,o8,rc,ac⟩;have H5:=κ (H4.o.step (s':=tkS (tkS (tkS S7 2) 2) (4* N8)) rc ac);have O8:=κ (qbY o8 (show hi+1<=wb.heap.size from by have:=qn H4.o.bd;omega));clear rc ac o8;have x8:=β8 H5.o.bd;have z8:=yw H5.o.bd 8;obtain⟨o8,n8,c8,rfl,-,-⟩:=qfO O8.o)))
     go_meet;obtain⟨e1,e2,e3⟩:=HX2.o η;rw[e1,e2,e3];exact⟨_,H5.o.fill 8 (δ o8 n8 c8) (q':=⟨(decide (128<=g)),GM,sq,st,sc,L7,ό,N7,(tkB (tkS (tkS S7 2) 2).1 (4* N8)),[]⟩) rfl H5.o.rs O8.o H5.o.rp⟩
   case rest=>
    obtain⟨ve,hc⟩:=hcut;have HC:=κ hc;have hb8:=hc.rd.byt;have hl8:=hc.rd.small;have hsh:=hc.rd.shut;have HB8:=κ hb8;have HP:=κ (H9P.o hsh);clear hc H1 HB HX2 HX3 EN7 EN8 x6 z6 H9P hsh hb8
    go_upto_if 84 with (first | (go_at_call 160;(go_call zn HC.o.rd as e wd ⟨rfl,rfl⟩)) | (go_at_call 159;(go_call QI (S8.1.length:Int) HC.o.rd as e we ⟨v9,rfl,o9,rd,ad⟩;rw[(KQ S8.1 S8.2).1] at o9;rw[(KQ S8.1 S8.2).2.1,(KQ S8.1 S8.2).2.2] at rd;have H5:=κ (HC.o.step (s':=([],S8.2)) rd ad);have O9:=κ (qbY o9 (show hi+1<=_ from by have:=qn HC.o.bd;omega));clear rd ad o9;have x9:=β9 H5.o.bd;have z9:=yw H5.o.bd 9;obtain⟨o9,n9,c9,rfl,hn9,-⟩:=qfO O9.o;subst hn9;have H6:=κ (H5.o.fill 9 (δ o9 S8.1.length c9) (q':=⟨(decide (128<=g)),GM,sq,st,sc,L7,FH,P7,X7,S8.1⟩) rfl H5.o.rs H5.o.re O9.o))))
    go_cut [8,9] from 85 (λs8 s9 wx=> ∃vp,HdS w wx R hi w.heap.size hi S9 ⟨(decide (128<=g)),GM,sq,st,sc,L7,FH,P7,X7,L9⟩ vs ve vp)
    case first=>
     cases FP with
     | false=>
      go_wp2;go_meet;obtain⟨e1,e2⟩:=H9F.o η;rw[e1,e2];exact⟨_,H6.o⟩
     | true=>
      obtain⟨U,hU⟩:=ν ((xL S8.1).2);have h9:=H9T.o η;rw[hU] at h9;have HU:=κ hU;have H9:=κ h9;clear h9 hU;cases U with
      | true=>
       go_wp2_with (go_at_call 161;(go_call XK o9 c9 S8.1 (hi+1) _ H6.o.rp HB8.o hl8 as e wf ⟨⟨v10,rfl,o10⟩,rfl⟩;rw[HU.o];have O10:=κ o10;clear o10;obtain⟨o10,n10,c10,rfl,-,-⟩:=qfO O10.o))
       go_meet;obtain⟨e1,e2⟩:=H9.o;rw[e1,e2,ϓ trivial];exact⟨_,H6.o.fill 9 (δ o10 n10 c10) (q':=⟨(decide (128<=g)),GM,sq,st,sc,L7,FH,P7,X7,(xL S8.1).1⟩) rfl H6.o.rs H6.o.re O10.o⟩
      | false=>
       go_wp2_with (first | (go_at_call 161;(go_call XK o9 c9 S8.1 (hi+1) _ H6.o.rp HB8.o hl8 as e wf ⟨⟨v10,rfl,o10⟩,rfl⟩;rw[HU.o];have O10:=κ o10;clear o10;obtain⟨o10,n10,c10,rfl,-,-⟩:=qfO O10.o)) | (go_at_call 158;(go_call zo H6.o.rd 2 as e wg ⟨rfl,rg,ag⟩;have O11:=κ (xC O10.o ag (λk hk=>by have:=H6.o.n1;omega));have H7:=κ (H6.o.step (s':=wrS ([],S8.2) 2) rg ag);clear rg ag;have x9':=β9 H7.o.bd;have z9':=yw H7.o.bd 9)))
       go_meet;obtain⟨e1,e2⟩:=H9.o;rw[e1,e2,Ϗ η];exact⟨_,H7.o.fill 9 (δ o10 n10 c10) (q':=⟨(decide (128<=g)),GM,sq,st,sc,L7,FH,P7,X7,(xL S8.1).1⟩) rfl H7.o.rs H7.o.re O11.o⟩
    case rest=>
     obtain⟨vp,hc⟩:=hcut;have HE:=κ hc;clear hc H6 H5 HC H9T H9F x9 z9 O9 HB8;obtain⟨hp1,hp2,hp3⟩:=HP.o;have hev:(if ¬S9.2=0 then S9.2 else if 0<S9.1.length then 4 else 0)=PE:=by
      rw[<-hp1,hp2];by_cases h0:S9.2=0<;>simp[h0]
     have HEV:=κ hev;have HP3:=κ hp3;clear hev hp1 hp2 hp3 HP;obtain⟨os,ns,cs,rfl,-,-⟩:=qfO HE.o.rs;obtain⟨oe,ne,ce,rfl,-,-⟩:=qfO HE.o.re;obtain⟨op,np,cp,rfl,-,-⟩:=qfO HE.o.rp;obtain⟨y0,y1,y2,y3,y4,y5,y6,y7,y8,y9⟩:=YK HE.o.bd
     dsimp only at y0 y1 y2 y3 y4 y5 y6 y7 y8 y9
     obtain⟨g0,g1,g2,g3,g4,g5,g6,g7,g8,g9⟩:=YK HE.o.br;obtain⟨k0,k1,k2,k3,k4,k5,k6,k7,k8,k9⟩:=ID HE.o.br;by_cases h0:PE=0
     ·have hq:=HQ.o;rw[ϓ h0,<-HP3.o h0] at hq;have HQ2:=κ hq;clear hq HQ HP3;subst h0
      go_wp2_with (go_at_call 162;(go_call yT HE.o.rd as e wh ⟨rfl,rfl⟩;rw[HEV.o]))
      obtain⟨WF,hWF,mf,aw,r0,r1,r2,r3,r4,r5,r6,r7,r8,r9⟩:=WD HE.o.more (ϔ _) HE.o.br (μ (decide (128<=g))) (υ GM) (φ sq) (ω st) (ω sc) (δ os ns cs) (μ FH) (φ P7) (δ oe ne ce) (δ op np cp);clear g0 g1 g2 g3 g4 g5 g6 g7 g8 g9 k0 k1 k2 k3 k4 k5 k6 k7 k8 k9 y0 y1 y2 y3 y4 y5 y6 y7 y8 y9;rw[hWF];clear hWF
      (refine bodyPost_ret (v:= .tuple #[θ #[μ (decide (128<=g)),υ GM,φ sq,ω st,ω sc,δ os ns cs,FH,φ P7,δ oe ne ce,δ op np cp],ι 0]) ?rr2 rfl ?_;(case rr2=>(simp[results,results127,go_sem,r0,r1,r2,r3,r4,r5,r6,r7,r8,r9])))
      rw[<-HQ2.o]
      refine⟨δ os ns cs,δ oe ne ce,δ op np cp,rfl, ?_,mf,λb hb=>(by
       have:=HE.o.n0;have:=HE.o.n1;have:=HE.o.nR;have:=HE.o.n5;rcases hb with e | e | e
       ·have:=jG HE.o.rs e;omega
       ·have:=jG HE.o.re e;omega
       ·have:=jG HE.o.rp e;omega)⟩
      have:=HE.o.n1;have:=HE.o.nR;have:=HE.o.n5;exact⟨SlI.of_owns (xC HE.o.rs aw (λk hk=>by omega)) (kP HE.o.rs),SlI.of_owns (xC HE.o.re aw (λk hk=>by omega)) (kP HE.o.re),SlI.of_owns (xC HE.o.rp aw (λk hk=>by omega)) (kP HE.o.rp)⟩
     ·have hq:=HQ.o;rw[Ϗ h0] at hq;have HQ2:=κ hq;have h0b:(PE != 0)=ό:=by simpa using h0
      clear hq HQ HP3
      go_wp2_with (go_at_call 162;(go_call yT HE.o.rd as e wh ⟨rfl,rfl⟩;rw[HEV.o]))
      obtain⟨WF,hWF,mf,aw,r0,r1,r2,r3,r4,r5,r6,r7,r8,r9⟩:=WD HE.o.more (ϔ _) HE.o.br (μ ύ) (υ 0) (φ 0) (ω 0) (ω 0) (δ ϋ 0 0) (μ ύ) (φ 0) (δ ϋ 0 0) (δ ϋ 0 0);clear g0 g1 g2 g3 g4 g5 g6 g7 g8 g9 k0 k1 k2 k3 k4 k5 k6 k7 k8 k9 y0 y1 y2 y3 y4 y5 y6 y7 y8 y9;rw[hWF];clear hWF
      (refine bodyPost_ret (v:= .tuple #[Γc,ι PE]) ?rr3 rfl ?_;(case rr3=>(simp[results,results127,go_sem,r0,r1,r2,r3,r4,r5,r6,r7,r8,r9])))
      rw[<-HQ2.o];exact⟨δ ϋ 0 0,δ ϋ 0 0,δ ϋ 0 0,rfl,⟨SlI.nil _ _,SlI.nil _ _,SlI.nil _ _⟩,mf,VB⟩
def F9 (w:World) (R A room first:Nat) (c:List Value) (T:List (List Value)) (ac ad aa ab:Int) (css:List (List Value)) (h:qN 2 279 209 w R A room first (c::T) ac ad aa ab css):
  Calls prog 226 #[γ R] w λe w'=>e= .returned (.tuple #[θ c.toArray,ό])/\ql w w':=by
 have U:=κ h;have I:=h.ofHead;have J:c.toArray.size=2:=by simpa using I.1
 have ae:=h.fst;have ak:(first:Int)<(room:Int):=by have:=h.fst;omega
 have al:0<=(first:Int):=by omega
 have aj:(((c::T).length:Int)==0)=ύ:=by simp;omega
 have ag:(w.alloc (.cells Γs 209)).cell? ⟨R,2,ϋ⟩=ϊ (ι (c::T).length):=qa (qs h.ring _) 2 rfl;clear h
 go_enter func226,ntmps226
 go_wp2;obtain⟨W1,H⟩:=ν (w.alloc (.cells Γs 209));have O:Hid (ql w W1):=κ (by rw[<-H];exact ql.alloc _ _);have G:=κ (U.o.more O.o);have N:Hid (W1.heap[w.heap.size]? =ϊ (.cells Γs 209 (0,0))):=κ (by rw[<-H];exact qj w _);rw[H];clear H ag;have ah: ∀x:qt W1,x.w'.cell? ⟨R,0,ϋ⟩=ϊ (δ (ϊ ⟨A,0,ϋ⟩) room room):=λx=>x.cell (qn G.o.ring) (qa G.o.ring 0 rfl)
 have ai: ∀x:qt W1,x.w'.cell? ⟨R,1,ϋ⟩=ϊ (ι first):=λx=>x.cell (qn G.o.ring) (qa G.o.ring 1 rfl)
 have Y: ∀x:qt W1,x.w'.rangeAt A (first* 2) c:=λx=>by have:=(G.o.more x.h).range ae;rw[G.o.head] at this;exact this
 refine Qn W1 10 12 [10,11] ?_
 refine Qq9 ?_
 refine jh rfl rfl (qk ρ) 209 (.tmp 19) rfl A (first* 2) rfl c _ (λw' af=>by obtain⟨x,rfl⟩:=af;exact Y x) underlying209 rfl (by rw[I.1];kernel_rfl) ?_;intro K d;go_simp;refine d _ ?_;clear d K;refine zY rfl rfl ζ ?_;intro K d;refine jr 209 (.tmp 2) (.tmp 20) rfl w.heap.size 209 _ c.toArray rfl rfl (qb N.o 1) (by rw[J];kernel_rfl) (by rw[J];rfl) (all_oneCell_toArray I.2) ?_;refine⟨trivial, ?_⟩;go_simp;refine d _ _ ?_;clear d K
 (refine Qe ?_;intro K d)
 refine d _ _ ?_;clear d K;refine qA ?_;go_wp2;refine bodyPost_ret (v:= .tuple #[θ c.toArray,ό]) (yo results226 _ _ w.heap.size 209 c.toArray _ _ rfl rfl (jY (qb N.o 1) _) underlying209 rfl (by rw[J];kernel_rfl)) rfl ?_;exact⟨rfl,(EC _ _ _).to_more (O.o.dr 1) (λk e=>by rw[e];exact ϔ _)⟩
end Go.Proofs.YtmgaiiffmheabaaGreatDoor
