/- x -/
import Derived.Test.YtlmllmonabafjaaGreatDoorMg5
import Derived.Deep.WholeRow
import Derived.Test.YtlmllmonabafjaaGreatDoorMg2
namespace Go.Proofs.YtlmllmonabafjaaGreatDoor
open Option renaming some->ϊ,none->ϋ
open Bool renaming true->ό,false->ύ
open Go.Value renaming bool->μ,slice->δ,pointer->π,agg->θ
open Go.IntKind renaming i64->ι,u8->υ,u16->φ,u32->ω,i32->χ,u64->ψ
open _root_.Go.Proofs.Tryz
set_option linter.all false
set_option maxHeartbeats 8000000
open Go.RowKit
set_option maxRecDepth 100000
variable {w w' wr w0 H:World} {cs Z:Array Value} {s s':RdS} {v u d a0 a3 a4:Value} {t x:Int} {E l:List Int} {R Br hi b B base G n e:Nat} {A:List Itm} {Q:Exit->Act->World->Prop} {D:Nat->Prop} {P:Program} {k:IntKind} {ops:Array Oper} {rest:List Oper} {xs:List Value} {q:Pk} {α:Type} {L:List α} {c:qY} {o:Oper}
def Xr {t:TypeId} {I H:Value} (h:w.heap[b]? =ϊ (.cells #[a0,I,H,a3,a4] t (0,0))) (v0 d G v3 v4:Value):(((((w.setCell ⟨b,0,ϋ⟩ v0).setCell ⟨b,1,ϋ⟩ d).setCell ⟨b,2,ϋ⟩ G).setCell ⟨b,3,ϋ⟩ v3).setCell ⟨b,4,ϋ⟩ v4).heap[b]? =ϊ (.cells #[v0,d,G,v3,v4] t (0,0)):=by
 have h:=qF (cs':= #[v0,I,H,a3,a4]) (qt h 0 v0) rfl;have h:=qF (cs':= #[v0,d,H,a3,a4]) (qt h 1 d) rfl;have h:=qF (cs':= #[v0,d,G,a3,a4]) (qt h 2 G) rfl;have h:=qF (cs':= #[v0,d,G,v3,a4]) (qt h 3 v3) rfl;exact qF (qt h 4 v4) rfl
def qk.st5 (w:World) (b:Nat) (v0 d G v3 v4:Value):qk (λk=>k=b) w (((((w.setCell ⟨b,0,ϋ⟩ v0).setCell ⟨b,1,ϋ⟩ d).setCell ⟨b,2,ϋ⟩ G).setCell ⟨b,3,ϋ⟩ v3).setCell ⟨b,4,ϋ⟩ v4):=((((((qk.refl (λk=>k=b) w).cons 0 v0).cons 1 d).cons 2 G).cons 3 v3).cons 4 v4)
def uh {t:TypeId} {G:Value} (h:w.heap[b]? =ϊ (.cells #[a0,d,G,a3,a4] t (0,0))):
  w.cell? ⟨b,0,ϋ⟩=ϊ a0/\w.cell? ⟨b,1,ϋ⟩=ϊ d/\w.cell? ⟨b,2,ϋ⟩=ϊ G/\w.cell? ⟨b,3,ϋ⟩=ϊ a3/\w.cell? ⟨b,4,ϋ⟩=ϊ a4:=
 ⟨qi h 0 rfl,qi h 1 rfl,qi h 2 rfl,qi h 3 rfl,qi h 4 rfl⟩
def GB {t:TypeId} (h:w.heap[b]? =ϊ (.cells cs t (0,0))):
  w.frozen? ⟨b,0,ϋ⟩=ύ/\w.frozen? ⟨b,1,ϋ⟩=ύ/\w.frozen? ⟨b,2,ϋ⟩=ύ/\w.frozen? ⟨b,3,ϋ⟩=ύ/\w.frozen? ⟨b,4,ϋ⟩=ύ:=
 ⟨ql h 0,ql h 1,ql h 2,ql h 3,ql h 4⟩
def Xt {S:Nat->Prop} {l:List (Int×Int)} (h:SlP 2 VZ w v l) (J: ∀b,v.ownBlock=ϊ b-> ¬S b) (a:qk S w w'):SlP 2 VZ w' v l:=by
 obtain⟨aa,cap,rfl,G,H,I⟩:=h;refine⟨aa,cap,rfl,G,λi hi=> ?_,I⟩;obtain⟨b,ab,cs,rfl,d,U,N,Y⟩:=H i hi;exact⟨b,ab,cs,rfl,ϗ d a.size,U,λj O=>by rw[a.cells b _ d (J b rfl)];exact N j O,Y⟩
structure MdJ (w0 w:World) (R Bm:Nat) (C:Nat->Prop) (o0 o1:Obj) (cs:Array Value) (s:RdS):Prop where
 rd:qw w R s.1 s.2 C
 b0:w.heap[w0.heap.size]? =ϊ o0
 b1:w.heap[w0.heap.size+1]? =ϊ o1
 bm:w.heap[Bm]? =ϊ (.cells cs 283 (0,0))
 more:qh w0 w
 h1:w0.heap.size+1<Bm
 h2:Bm<R
 hC: ∀g,C g->Bm<g
section
variable {w0 w w':World} {R Bm:Nat} {C:Nat->Prop} {o0 o1:Obj} {cs:Array Value} {s s':RdS}
def MdJ.read (h:MdJ w0 w R Bm C o0 o1 cs s) (r:qw w' R s'.1 s'.2 C) (a:qk (λb=>b=R) w w'):MdJ w0 w' R Bm C o0 o1 cs s':=by
 have h1:=h.h1;have h2:=h.h2;exact⟨r,a.blk h.b0 τ,a.blk h.b1 τ,a.blk h.bm τ,Xu a h.more τ,h1,h2,h.hC⟩
def MdJ.set (h:MdJ w0 w R Bm C o0 o1 cs s) (i:Nat) (x:Value):MdJ w0 (w.setCell ⟨Bm,i,ϋ⟩ x) R Bm C o0 o1 (cs.setIfInBounds i x) s:=by
 have h1:=h.h1;have h2:=h.h2;have a:qk (λb=>b=Bm) w (w.setCell ⟨Bm,i,ϋ⟩ x):=(qk.refl (λb=>b=Bm) w).set (p:=⟨Bm,i,ϋ⟩) rfl x;exact⟨h.rd.off a τ (λg d e=>by have:=h.hC g d;omega),a.blk h.b0 τ,a.blk h.b1 τ,qt h.bm i x,qk.to_more h.more a (λk G=>by omega),h1,h2,h.hC⟩
def MdJ.eq {cs':Array Value} (h:MdJ w0 w R Bm C o0 o1 cs s) (e:cs=cs'):MdJ w0 w R Bm C o0 o1 cs' s:=e▸h
end
def Hw (a b:Int) (s:RdS):vZ 1 a b s=kI ⟨1,a,b,[],[]⟩ s:=by unfold vZ;rw[ώ ζ,ώ ζ]
def Hv (a b:Int) (s:RdS):vZ 2 a b s=kI ⟨2,a,b,(js s.1.length [] (yc b s)).1,[]⟩ (js s.1.length [] (yc b s)).2:=by unfold vZ;rw[ϒ rfl]
def Hu (a b:Int) (s:RdS):vZ 3 a b s=kI ⟨3,a,b,[],(jh s.1.length [] (xZ s)).1⟩ (jh s.1.length [] (xZ s)).2:=by unfold vZ;rw[ώ ζ,ϒ rfl]
def YP (b:Int) (s:RdS):(yc b s).1.length<=s.1.length:=by
 unfold yc;split
 ·exact km s 2
 ·exact ϕ _
def wG: ∀(n m:Nat) (acc:List (Int×Int)) (s:RdS),s.1.length<=n->n<=m->js m acc s=js n acc s
 | 0,m,acc,s,h,_=>by
  obtain⟨l,e⟩:=s;obtain rfl:l=[]:=Ϥ (by simpa using h);rw[yg];rfl
 | n+1,m,acc,s,h,hm=>by
  obtain⟨m,rfl⟩: ∃k,m=k+1:=⟨m-1,τ⟩;by_cases hs:s.1=[]
  ·obtain⟨l,e⟩:=s;simp only at hs;subst hs;rw[yg,yg]
  ·rw[yG hs,yG hs];exact wG n m _ _ (by have:=Zl hs;omega) τ
def AV (n t:Int) (B:List Int) (G:Option Addr) (d:Nat) (ad:Hid (SlI .u8 w (δ G B.length d) B)) (ae:B.length<=1000000) (aa:Hid (jz (n,t,B,())=ύ)):
  Calls prog 281 #[θ #[υ n,υ t,δ G B.length d]] w λe w'=>e= .returned (.tuple #[Γg,ι 1])/\qh w w':=by
 have ab:=κ (zk (w:=(w.alloc (.cells #[υ n,υ t,δ G B.length d] 291)).alloc (.cells Γg 283)) (n,t,B,()) (ad.o.keep (Z0.al _)) ae);have Y:=κ (qH (w:=w.alloc (.cells #[υ n,υ t,δ G B.length d] 291)) (n:=w.heap.size+1) (o:=(.cells Γg 283)) η)
 go_enter func281,ntmps281
 go_wp2_with (go_at_call 260;(go_call ab.o as e U ⟨rfl,I⟩;rw[aa.o];have H:=κ (qj I Y.o);have ac:=κ (((qh.alloc w (.cells #[υ n,υ t,δ G B.length d] 291)).al (.cells Γg 283)).trans I);clear I;obtain⟨aq,ar,au,av,aw⟩:=uh H.o;obtain⟨ak,am,an,ao,ap⟩:=GB H.o))
 have J:=Xr H.o (ι 0) (ω 0) (ω 0) (δ ϋ 0 0) (δ ϋ 0 0);have a5:=qk.st5 U (w.heap.size+1) (ι 0) (ω 0) (ω 0) (δ ϋ 0 0) (δ ϋ 0 0);have O:=qk.to_more ac.o a5 (λb e=>by omega);obtain⟨WF,N⟩:=ν ((((((U.setCell ⟨w.heap.size+1,0,ϋ⟩ (ι 0)).setCell ⟨w.heap.size+1,1,ϋ⟩ (ω 0)).setCell ⟨w.heap.size+1,2,ϋ⟩ (ω 0)).setCell ⟨w.heap.size+1,3,ϋ⟩ (δ ϋ 0 0)).setCell ⟨w.heap.size+1,4,ϋ⟩ (δ ϋ 0 0)));rw[N] at J O ⊢ a5;clear N;obtain⟨af,ag,ah,ai,aj⟩:=uh J
 (refine bodyPost_ret (v:= .tuple #[Γg,ι 1]) ?rr1 rfl ?_;(case rr1=>(simp[results,results281,go_sem,af,ag,ah,ai,aj])))
 exact⟨rfl,O⟩
def UB (n t:Int) (B:List Int) (G:Option Addr) (d:Nat) (ai:Hid (SlI .u8 w (δ G B.length d) B)) (aj:B.length<=1000000) (ae:Hid (jz (n,t,B,())=ό)) (ad:Hid (ya (n,t,B,())=0)):
  Calls prog 281 #[θ #[υ n,υ t,δ G B.length d]] w λe w'=>e= .returned (.tuple #[Γg,ι 5])/\qh w w':=by
 have af:=κ (zk (w:=(w.alloc (.cells #[υ n,υ t,δ G B.length d] 291)).alloc (.cells Γg 283)) (n,t,B,()) (ai.o.keep (Z0.al _)) aj);have aa:=κ (qv (qp w (.cells #[υ n,υ t,δ G B.length d] 291)) (.cells Γg 283));have ab:=κ (qH (w:=w.alloc (.cells #[υ n,υ t,δ G B.length d] 291)) (n:=w.heap.size+1) (o:=(.cells Γg 283)) η)
 go_enter func281,ntmps281
 go_wp2_with (first | (go_at_call 260;(go_call af.o as e aF ⟨rfl,H⟩;rw[ae.o];have I:=κ (qj H aa.o);have ac:=κ (qj H ab.o);have ag:=κ (((qh.alloc w (.cells #[υ n,υ t,δ G B.length d] 291)).al (.cells Γg 283)).trans H);clear H;have aq:=β0 I.o;have ar:=β1 I.o;have au:=β2 I.o)) | (go_at_call 306;(go_call ZG n t B G d _ as e w4 ⟨rfl,N⟩;rw[ad.o];have J:=κ (qv (qj N ac.o) (.cells Γg 283));have ah:=κ ((ag.o.trans N).al (.cells Γg 283));clear N aq ar au;obtain⟨aA,aB,aC,aD,aE⟩:=uh J.o;obtain⟨av,aw,ax,ay,az⟩:=GB J.o)))
 generalize w4.alloc (.cells Γg 283)=w5 at *;have O:=Xr J.o (ι 0) (ω 0) (ω 0) (δ ϋ 0 0) (δ ϋ 0 0);have a5:=qk.st5 w5 (w.heap.size+1) (ι 0) (ω 0) (ω 0) (δ ϋ 0 0) (δ ϋ 0 0);have Y:=qk.to_more ah.o a5 (λb e=>by omega);obtain⟨WF,U⟩:=ν ((((((w5.setCell ⟨w.heap.size+1,0,ϋ⟩ (ι 0)).setCell ⟨w.heap.size+1,1,ϋ⟩ (ω 0)).setCell ⟨w.heap.size+1,2,ϋ⟩ (ω 0)).setCell ⟨w.heap.size+1,3,ϋ⟩ (δ ϋ 0 0)).setCell ⟨w.heap.size+1,4,ϋ⟩ (δ ϋ 0 0)));rw[U] at O Y ⊢ a5;clear U;obtain⟨ak,am,an,ao,ap⟩:=uh O
 (refine bodyPost_ret (v:= .tuple #[Γg,ι 5]) ?rr2 rfl ?_;(case rr2=>(simp[results,results281,go_sem,ak,am,an,ao,ap])))
 exact⟨rfl,Y⟩
def FQ (n t k:Int) (bA:k=1∨k=2∨k=3) (B:List Int) (ai:Option Addr) (ad:Nat) (D:Msg×Int) (bp:Hid (SlI .u8 w (δ ai B.length ad) B)) (bf:Hid (Byt B)) (bB:B.length<=1000000) (bS:Hid (jz (n,t,B,())=ό)) (bP:Hid (ya (n,t,B,())=k))
  (bg:Hid (vZ k (zg (B,0)) (zg (tkS (B,0) 4)) (tkS (tkS (B,0) 4) 4)=D)):
  Calls prog 281 #[θ #[υ n,υ t,δ ai B.length ad]] w λe w'=>(∃va vl,e= .returned (.tuple #[θ #[ι D.1.kind,ω D.1.snd,ω D.1.med,va,vl],ι D.2])/\Bn w' va vl D.1/\xg w va/\xg w vl)/\qh w w':=by
 have bj:=κ (zk (w:=(w.alloc (.cells #[υ n,υ t,δ ai B.length ad] 291)).alloc (.cells Γg 283)) (n,t,B,()) (bp.o.keep (Z0.al _)) bB);have bb:=κ (qv (qp w (.cells #[υ n,υ t,δ ai B.length ad] 291)) (.cells Γg 283));have bc:=κ (qH (w:=w.alloc (.cells #[υ n,υ t,δ ai B.length ad] 291)) (n:=w.heap.size+1) (o:=(.cells Γg 283)) η);obtain⟨ak,aP⟩: ∃x,num (tkB B 4)=x:=⟨_,rfl⟩;obtain⟨G,aE⟩: ∃x,num (tkB (tkS (B,0) 4).1 4)=x:=⟨_,rfl⟩;obtain⟨d,aQ⟩: ∃x,tkS (tkS (B,0) 4) 4=x:=⟨_,rfl⟩;have bM:Hid (vZ k ak G d=D):=κ (by rw[<-aP,<-aE,<-aQ];exact bg.o);have bh:=κ aP;have bi:=κ aE;have bk:=κ aQ;have cr:0<=G:=by
  have:=Xx (s:=tkS (B,0) 4) (jW (s:=(B,0)) bf.o 4);rw[<-aE];exact this.1
 clear aP aE aQ bg;have cq: ¬k=0:=by omega
 have bQ:=κ bA;clear bA
 go_enter func281,ntmps281
 go_upto_region 9 with (first | (go_at_call 260;(go_call bj.o as e cA ⟨rfl,aF⟩;rw[bS.o];have au:=κ (qj aF bb.o);have aH:=κ (qj aF bc.o);have bn:=κ (((qh.alloc w (.cells #[υ n,υ t,δ ai B.length ad] 291)).al (.cells Γg 283)).trans aF);clear aF;have cl:=β0 au.o;have cm:=β1 au.o;have ba:=β2 au.o)) | (go_at_call 306;(go_call ZG n t B ai ad _ as e w4 ⟨rfl,ax⟩;rw[bP.o];have aG:=κ (qv (qj ax au.o) (.cells #[ι k,ω 0,ω 0,(),()] 283));have bd:=κ (qv (qj ax aH.o) (.cells #[ι k,ω 0,ω 0,(),()] 283));have aN:=κ ((bn.o.trans ax).al (.cells #[ι k,ω 0,ω 0,(),()] 283));have be:=κ (qp w4 (.cells #[ι k,ω 0,ω 0,(),()] 283));have bw:=κ (ϗ (qq aH.o) ax.size);clear ax cl cm ba;have ba:=β2 aG.o)) | (go_at_call 51;(go_call kQ _ B _ (bp.o.keep aN.o) bf.o bB as e w6 ⟨R,rfl,bz,bG,ay⟩;have aL:Hid (MdJ w w6 R w4.heap.size (λg=>(w4.alloc (.cells #[ι k,ω 0,ω 0,(),()] 283)).heap.size<=g/\g<w6.heap.size) (.cells #[υ n,υ t,δ ai B.length ad] 291) (.cells Γg 283) #[ι k,ω 0,ω 0,(),()] (B,0)):=κ ⟨bG,qj ay aG.o,qj ay bd.o,qj ay be.o,aN.o.trans ay,bw.o,by (have:=bz;simp at this;omega),λg h=>by (have:=h.1;simp at this;omega)⟩;clear bz bG ay ba)) | (go_at_call 54;((with_reducible refine(jK aL.o.rd).mono ?_);rintro e cB ⟨rfl,bH,br⟩;rw[bh.o];have aC:=κ (aL.o.read (s':=tkS (B,0) 4) bH br);clear bH br;have cj:=β1 aC.o.bm;have cn:=ql aC.o.bm 1;have aM:=κ (aC.o.set 1 (ω ak)))) | (go_at_call 54;((with_reducible refine(jK aM.o.rd).mono ?_);rintro e w8 ⟨rfl,bI,bs⟩;rw[bi.o];have aD:=κ (aM.o.read (s':=tkS (tkS (B,0) 4) 4) bI bs);clear bI bs cj cn;have aU:=β2 aD.o.bm;have co:=ql aD.o.bm 2;have H:=κ ((aD.o.set 2 (ω G)).eq (cs':= #[ι k,ω ak,ω G,(),()]) rfl);have bE:=β0 H.o.bm)))
 rw[bk.o] at H;generalize ch:(λg=>(w4.alloc (.cells #[ι k,ω 0,ω 0,(),()] 283)).heap.size<=g/\g<w6.heap.size)=C at *;clear ch bb bc au aH bn aG bd aN be aL aC aM aD bj bh bi bk aU co bw;generalize w4.heap.size=Bm at *;generalize w8.setCell ⟨Bm,2,ϋ⟩ (ω G)=w9 at *;have bE:=β0 H.o.bm
 go_upto_block 0 with fail
 go_cut [] from 27 to 62 (λar=> ∃(ah aj:Option Addr) (af ag ac ae:Nat) (S:RdS) (m:Msg),MdJ w ar R Bm C (.cells #[υ n,υ t,δ ai B.length ad] 291) (.cells Γg 283) #[ι k,ω ak,ω G,δ ah af ac,δ aj ag ae] S/\vZ k ak G d=kI m S/\(m.kind=k/\m.snd=ak/\m.med=G)/\Bn ar (δ ah af ac) (δ aj ag ae) m/\(xg w (δ ah af ac)/\xg w (δ aj ag ae))/\ ∀b,((δ ah af ac).ownBlock=ϊ b∨(δ aj ag ae).ownBlock=ϊ b)-> ¬b=w.heap.size+1)
 case first=>
  rcases bQ.o with rfl | rfl | rfl
  ·go_wp2;go_meet;exact⟨_,_,_,_,_,_,d,_,H.o,Hw _ _ _,⟨rfl,rfl,rfl⟩,⟨SlP.nil _ _ _,SlI.nil _ _⟩,⟨xg.nil w,xg.nil w⟩,λb h=>by rcases h with h | h<;>cases h⟩
  ·have aU:=β2 H.o.bm
   go_upto_region 11 with fail
   obtain⟨Q,bx⟩: ∃Q:Bool,Q=decide (¬G=0∨d.1.length=0∨ ¬d.1.length%8=0):=⟨_,rfl⟩;have ao:=κ bx;clear bx
   go_cut [44] from 31 to 43 (λv ar=>v= μ Q/\w9=ar)
   case first=>
    by_cases c1:G=0
    ·have bm:(G != 0)=ύ:=by simpa using c1
     by_cases c2:d.1.length=0
     ·have bV:((d.1.length:Int)==0)=ό:=eqB τ;have U:Hid (ό=Q):=κ (by rw[ao.o];exact(Ϩ (ϓ (ϐ c2))).symm);clear c1 c2
      go_wp2_with (go_at_call 57;(go_call yE H.o.rd as e w10 ⟨rfl,rfl⟩))
      go_meet;rw[<-U.o];exact⟨rfl,rfl⟩
     ·have bV:((d.1.length:Int)==0)=ύ:=neB τ;by_cases c3:d.1.length%8=0
      ·have bW:((d.1.length:Int)%8 != 0)=ύ:=by simp;omega
       have U:Hid (ύ=Q):=κ (by rw[ao.o];exact(Ϯ (by rintro(h | h | h);exact h c1;exact c2 h;exact h c3)).symm);clear c1 c2 c3
       go_wp2_with (go_at_call 57;(go_call yE H.o.rd as e w10 ⟨rfl,rfl⟩))
       go_meet;rw[<-U.o];exact⟨rfl,rfl⟩
      ·have bW:((d.1.length:Int)%8 != 0)=ό:=by simp;omega
       have U:Hid (ό=Q):=κ (by rw[ao.o];exact(Ϩ (ϓ (ϓ c3))).symm);clear c1 c2 c3
       go_wp2_with (go_at_call 57;(go_call yE H.o.rd as e w10 ⟨rfl,rfl⟩))
       go_meet;rw[<-U.o];exact⟨rfl,rfl⟩
    ·have bm:(G != 0)=ό:=by simpa using c1
     have U:Hid (ό=Q):=κ (by rw[ao.o];exact(Ϩ (ϐ c1)).symm);clear c1
     go_wp2_with (go_at_call 57;(go_call yE H.o.rd as e w10 ⟨rfl,rfl⟩))
     go_meet;rw[<-U.o];exact⟨rfl,rfl⟩
   case rest=>
   obtain⟨rfl,rfl⟩:=hcut
   go_upto_if 44 with fail
   go_cut [] from 45 to 46 (λar=>MdJ w ar R Bm C (.cells #[υ n,υ t,δ ai B.length ad] 291) (.cells Γg 283) #[ι 2,ω ak,ω G,(),()] (yc G d))
   case first=>
    have bT:=κ (zN (s:=d) H.o.rd 2);cases Q with
    | true=>
     have U:Hid (yc G d=wrS d 2):=κ (by unfold yc;rw[ϒ (Ϛ ao.o.symm)])
     go_wp2_with (first | (go_at_call 55;(go_call bT.o as e cz ⟨rfl,bF,bq⟩;have bU:=κ (H.o.read (s':=wrS d 2) bF bq);clear bF bq)))
     go_meet;rw[U.o];exact bU.o
    | false=>
     have U:Hid (yc G d=d):=κ (by unfold yc;rw[ώ (B9 ao.o.symm)]);go_wp2;go_meet;rw[U.o];exact H.o
   case rest=>
   have aq:=κ hcut;clear hcut H aU ao;have bR:=κ (YP G d);have ci:R<wc.heap.size:=by obtain⟨v,aO,_⟩:=aq.o.rd.blk;exact qq aO
   go_wp2_with (go_at_call 307;(go_call VS (s0:=yc G d) aq.o.rd ci as e aA ⟨ck,rfl,aa⟩;have ab:=κ aa;have ap:=κ (aq.o.read (s':=(js (yc G d).1.length [] (yc G d)).2) (aa.rd.mono (λg h=>h.1)) aa.away);obtain⟨O,N,J,rfl,aS,aT⟩:=aa.row.shape;clear aS aT aa;have cx:=β3 ap.o.bm;have z3:=ql ap.o.bm 3;have I:=κ ((ap.o.set 3 (δ O N J)).eq (cs':= #[ι 2,ω ak,ω G,δ O N J,()]) rfl)))
   have aK:Hid (SlP 2 VZ (aA.setCell ⟨Bm,3,ϋ⟩ (δ O N J)) (δ O N J) (js (yc G d).1.length [] (yc G d)).1):=κ (Xt (ab.o.row.sl ζ) (λb Y e=>by have:=ab.o.row.ge Y;have:=qq aq.o.bm;omega) ((qk.refl (λb=>b=Bm) aA).set (p:=⟨Bm,3,ϋ⟩) rfl _));have aJ:Hid (∀b,(δ O N J).ownBlock=ϊ b-> ¬b=w.heap.size+1):=κ (λb Y e=>by have:=ab.o.row.ge Y;have:=qq aq.o.b1;omega);have aI:Hid (xg w (δ O N J)):=κ (λb Y=>by have:=ab.o.row.ge Y;have:=qq aq.o.b1;omega);have bO:=κ (wG (yc G d).1.length d.1.length [] (yc G d) (ϕ _) bR.o);go_meet;exact⟨_,_,_,_,_,_,_,_,I.o,(by rw[Hv,bO.o]),⟨rfl,rfl,rfl⟩,⟨aK.o,SlI.nil _ _⟩,⟨aI.o,xg.nil w⟩,λb h=>by rcases h with h | h;exact aJ.o b h;cases h⟩
  ·go_wp2_with (go_at_call 308;(go_call VR (s0:=d) H.o.rd (by obtain⟨v,aO,_⟩:=H.o.rd.blk;exact qq aO) as e aA ⟨ck,rfl,aa⟩;have ab:=κ aa;have ap:=κ (H.o.read (s':=(jh d.1.length [] (xZ d)).2) (aa.rd.mono (λg h=>h.1)) aa.away);obtain⟨O,N,J,rfl,aS,aT⟩:=jc aa.row;clear aS aT aa;have cy:=β4 ap.o.bm;have z4:=ql ap.o.bm 4;have I:=κ ((ap.o.set 4 (δ O N J)).eq (cs':= #[ι 3,ω ak,ω G,(),δ O N J]) rfl)))
   have aK:Hid (SlI .u16 (aA.setCell ⟨Bm,4,ϋ⟩ (δ O N J)) (δ O N J) (jh d.1.length [] (xZ d)).1):=κ (SlI.off (SlI.of_owns ab.o.row (Ot ab.o.row)) (λb Y e=>by have:=jP ab.o.row Y;have:=qq H.o.bm;omega) ((qk.refl (λb=>b=Bm) aA).set (p:=⟨Bm,4,ϋ⟩) rfl _));have aJ:Hid (∀b,(δ O N J).ownBlock=ϊ b-> ¬b=w.heap.size+1):=κ (λb Y e=>by have:=jP ab.o.row Y;have:=qq H.o.b1;omega);have aI:Hid (xg w (δ O N J)):=κ (λb Y=>by have:=jP ab.o.row Y;have:=qq H.o.b1;omega);go_meet;exact⟨_,_,_,_,_,_,_,_,I.o,(by rw[Hu]),⟨rfl,rfl,rfl⟩,⟨SlP.nil _ _ _,aK.o⟩,⟨xg.nil w,aI.o⟩,λb h=>by rcases h with h | h;cases h;exact aJ.o b h⟩
 case rest=>
 obtain⟨ah,aj,af,ag,ac,ae,S,m,bD,bt,⟨rfl,rfl,rfl⟩,bJ,⟨bu,bv⟩,bC⟩:=hcut;have I:=κ bD;have bo:=κ bJ;have bK:=κ bu;have bL:=κ bv;have bl:=κ bC;have am:=bM.o;rw[bt] at am;unfold kI at am;clear bD bt bJ bu bv bC H bE;by_cases he:gF S=0
 ·rw[ϒ he] at am;have an:=κ am;have bN:=κ he;obtain⟨ct,cu,p2,cv,cw⟩:=uh I.o.bm;obtain⟨cc,cd,ce,cf,cg⟩:=uh I.o.b1;obtain⟨bX,bY,bZ,ca,cb⟩:=GB I.o.b1;clear am he
  go_wp2_with (go_at_call 59;(go_call XD (s:=S) I.o.rd as e aB ⟨rfl,aR⟩;subst aR;rw[bN.o]))
  have av:=Xr I.o.b1 (ι m.kind) (ω m.snd) (ω m.med) (δ ah af ac) (δ aj ag ae);have a5:=qk.st5 aB (w.heap.size+1) (ι m.kind) (ω m.snd) (ω m.med) (δ ah af ac) (δ aj ag ae);have az:=qk.to_more I.o.more a5 (λb e=>by omega);obtain⟨WF,aw⟩:=ν ((((((aB.setCell ⟨w.heap.size+1,0,ϋ⟩ (ι m.kind)).setCell ⟨w.heap.size+1,1,ϋ⟩ (ω m.snd)).setCell ⟨w.heap.size+1,2,ϋ⟩ (ω m.med)).setCell ⟨w.heap.size+1,3,ϋ⟩ (δ ah af ac)).setCell ⟨w.heap.size+1,4,ϋ⟩ (δ aj ag ae)));rw[aw] at av az ⊢ a5;clear aw;obtain⟨aV,aW,aX,aY,aZ⟩:=uh av
  (refine bodyPost_ret (v:= .tuple #[θ #[ι m.kind,ω m.snd,ω m.med,δ ah af ac,δ aj ag ae],ι 0]) ?rr3 rfl ?_;(case rr3=>(simp[results,results281,go_sem,aV,aW,aX,aY,aZ])))
  refine⟨⟨δ ah af ac,δ aj ag ae,by first | (rw[<-an.o];done) | (rw[<-an.o];rfl), ?_⟩,az⟩;rw[<-an.o];exact⟨⟨Xt bo.o.asks (λb h=>bl.o b (ϐ h)) a5,SlI.off bo.o.lost (λb h=>bl.o b (ϓ h)) a5⟩,bK.o,bL.o⟩
 ·rw[ώ he] at am;have an:=κ am;have cp:(gF S != 0)=ό:=by simpa using he
  obtain⟨cc,cd,ce,cf,cg⟩:=uh I.o.b1;obtain⟨bX,bY,bZ,ca,cb⟩:=GB I.o.b1;clear am he
  go_wp2_with (go_at_call 59;(go_call XD (s:=S) I.o.rd as e aB ⟨rfl,aR⟩;subst aR))
  have av:=Xr I.o.b1 (ι 0) (ω 0) (ω 0) (δ ϋ 0 0) (δ ϋ 0 0);have a5:=qk.st5 aB (w.heap.size+1) (ι 0) (ω 0) (ω 0) (δ ϋ 0 0) (δ ϋ 0 0);have az:=qk.to_more I.o.more a5 (λb e=>by omega);obtain⟨WF,aw⟩:=ν ((((((aB.setCell ⟨w.heap.size+1,0,ϋ⟩ (ι 0)).setCell ⟨w.heap.size+1,1,ϋ⟩ (ω 0)).setCell ⟨w.heap.size+1,2,ϋ⟩ (ω 0)).setCell ⟨w.heap.size+1,3,ϋ⟩ (δ ϋ 0 0)).setCell ⟨w.heap.size+1,4,ϋ⟩ (δ ϋ 0 0)));rw[aw] at av az ⊢ a5;clear aw;obtain⟨aV,aW,aX,aY,aZ⟩:=uh av
  (refine bodyPost_ret (v:= .tuple #[Γg,ι (gF S)]) ?rr4 rfl ?_;(case rr4=>(simp[results,results281,go_sem,aV,aW,aX,aY,aZ])))
  refine⟨⟨δ ϋ 0 0,δ ϋ 0 0,by first | (rw[<-an.o];done) | (rw[<-an.o];rfl), ?_⟩,az⟩;rw[<-an.o];exact⟨⟨SlP.nil _ _ _,SlI.nil _ _⟩,xg.nil w,xg.nil w⟩
def Gh {vb:Value} (c:qY) (O:SlI .u8 w vb c.2.2.1) (Y:xD c) (J:c.2.2.1.length<=1000000):
  Calls prog 281 #[θ #[υ c.1,υ c.2.1,vb]] w λe w'=>(∃va vl,e= .returned (.tuple #[θ #[ι (qM c).1.kind,ω (qM c).1.snd,ω (qM c).1.med,va,vl],ι (qM c).2])/\Bn w' va vl (qM c).1/\xg w va/\xg w vl)/\qh w w':=by
 obtain⟨n,t,B,⟨⟩⟩:=c;obtain⟨_,_,U⟩:=Y;simp only at *;have d:=κ O;obtain⟨N,G,rfl,_⟩:=O;cases hr:jz (n,t,B,()) with
 | false=>
  have e:qM (n,t,B,())=(XK,1):=by unfold qM;rw[ϒ hr]
  rw[e];exact(AV n t B N G d J (κ hr)).mono λe w' ⟨H,I⟩=>⟨⟨_,_,H,⟨SlP.nil _ _ _,SlI.nil _ _⟩,xg.nil w,xg.nil w⟩,I⟩
 | true=>
  by_cases h0:ya (n,t,B,())=0
  ·have e:qM (n,t,B,())=(XK,5):=by unfold qM;rw[ώ (by rw[hr];simp),ϒ h0]
   rw[e];exact(UB n t B N G d J (κ hr) (κ h0)).mono λe w' ⟨H,I⟩=>⟨⟨_,_,H,⟨SlP.nil _ _ _,SlI.nil _ _⟩,xg.nil w,xg.nil w⟩,I⟩
  ·have e:qM (n,t,B,())=vZ (ya (n,t,B,())) (zg (B,0)) (zg (tkS (B,0) 4)) (tkS (tkS (B,0) 4) 4):=by unfold qM;rw[ώ (by rw[hr];simp),ώ h0]
   rw[e];exact FQ n t _ (WN h0).2 B N G _ d (κ U) J (κ hr) (κ rfl) (κ rfl)
section
open Go.RowKit Go.Lib
structure PM (w:World) (vb va vl vo:Value) (x:Itm):Prop where
 bl:SlP 7 Y7 w vb x.rep.bl
 ms:Bn w va vl x.msg
 bo:SlI .u8 w vo x.oth.2.2.1
def Mc (x:Itm) (vb va vl vo:Value):List Value:=[.int .i64 x.kind,.bool x.rep.snd,.int .u32 x.rep.src,.int .u32 x.rep.inf.sec,.int .u32 x.rep.inf.frac,.int .u32 x.rep.inf.stamp,.int .u32 x.rep.inf.pkts,.int .u32 x.rep.inf.octs,vb,.int .i64 x.msg.kind,.int .u32 x.msg.snd,.int .u32 x.msg.med,va,vl,.int .u8 x.oth.1,.int .u8 x.oth.2.1,vo]
def Je:qO Itm:=λw cs x=> ∃vb va vl vo,cs=Mc x vb va vl vo/\PM w vb va vl vo x/\GD x
def VM {o:Nat} {cs:List Value} (h:w.rangeAt b o cs) (m:qh w w') (d:b<w.heap.size):w'.rangeAt b o cs:=λj v G=>by
 rw[m.cells b _ d];exact h j v G
def xd {a:Act} (N:o.guard=ϋ) (G:TypeId) (x y:Operand) (O:o.op= .store G x y)
  (H:World) (c d:Array Value) (Y:w=H.alloc (.cells c G)) (aa:a.eval x= γ H.heap.size) (ab:a.eval y= θ d)
  (hi:(P.info? G).map (·.size)=ϊ d.size) (U:c.size=d.size) (I:d.all (·.oneCell')=ό)
  (h:wpList P ops Q rest (a.put o.dst undef) (H.alloc (.cells d G))):wpList P ops Q (o::rest) a w:=by
 subst Y;refine wpList_plain N λK J=> ?_
 unfold Oper.wp execOp;simp only[O,aa,ab,Sem.run_bind,Sem.run_pure,Result.andThen_ok,run_storeAt_new H G c d hi U I];exact J _ _ h
def OC {l:List Itm} (h:SlP 17 Je w v l): ∃N cap,v= δ N l.length cap/\(l.length:Int)<=9223372036854775807/\(∀i,i<l.length-> ∃b ab O G U H Y I aa J,N=ϊ ⟨b,ab,ϋ⟩/\b<w.heap.size/\
  w.rangeAt b (ab+i* 17) (Mc (l.getD i gD) (δ O (l.getD i gD).rep.bl.length G) (δ U (l.getD i gD).msg.asks.length H) (δ Y (l.getD i gD).msg.lost.length I) (δ aa (l.getD i gD).oth.2.2.1.length J))/\
  PM w (δ O (l.getD i gD).rep.bl.length G) (δ U (l.getD i gD).msg.asks.length H) (δ Y (l.getD i gD).msg.lost.length I) (δ aa (l.getD i gD).oth.2.2.1.length J) (l.getD i gD))/\ ∀x∈l,GD x:=by
 obtain⟨N,cap,ae,af,ag,ak⟩:=id h;refine⟨N,cap,ae,af,λi hi=> ?_,Hq h (λcs y ⟨_,_,_,_,_,_,k⟩=>k)⟩;obtain⟨b,ab,cs,e,ah,am,ai,vb,an,ao,vo,rfl,d,al⟩:=ag i hi;have ad:l.getD i gD=l[i]:=by simp[hi]
 rw[ad];generalize l[i]=x at *;obtain⟨O,G,rfl,_⟩:=id d.bl;obtain⟨U,H,rfl,_⟩:=id d.ms.asks;obtain⟨Y,I,rfl,_⟩:=id d.ms.lost;obtain⟨aa,J,rfl,_⟩:=id d.bo;refine⟨b,ab,O,G,U,H,Y,I,aa,J,e,ah,λj v ac=> ?_,d⟩;have aj:j<17:=(ϟ.1 ac).1;rw[ai j aj];exact ac
def XC {t:TypeId} {Y a5 aa ab ac a9 G H I J N O U:Value} (h:w.heap[b]? =ϊ (.cells #[a0,d,Y,a3,a4,a5,aa,ab,ac,a9,G,H,I,J,N,O,U] t (0,0))):
  (w.cell? ⟨b,0,ϋ⟩=ϊ a0/\w.cell? ⟨b,1,ϋ⟩=ϊ d/\w.cell? ⟨b,2,ϋ⟩=ϊ Y/\w.cell? ⟨b,3,ϋ⟩=ϊ a3/\w.cell? ⟨b,4,ϋ⟩=ϊ a4/\w.cell? ⟨b,5,ϋ⟩=ϊ a5/\w.cell? ⟨b,6,ϋ⟩=ϊ aa/\w.cell? ⟨b,7,ϋ⟩=ϊ ab/\w.cell? ⟨b,8,ϋ⟩=ϊ ac)/\
  (w.cell? ⟨b,9,ϋ⟩=ϊ a9/\w.cell? ⟨b,10,ϋ⟩=ϊ G/\w.cell? ⟨b,11,ϋ⟩=ϊ H/\w.cell? ⟨b,12,ϋ⟩=ϊ I/\w.cell? ⟨b,13,ϋ⟩=ϊ J)/\(w.cell? ⟨b,14,ϋ⟩=ϊ N/\w.cell? ⟨b,15,ϋ⟩=ϊ O/\w.cell? ⟨b,16,ϋ⟩=ϊ U):=
 ⟨⟨qi h 0 rfl,qi h 1 rfl,qi h 2 rfl,qi h 3 rfl,qi h 4 rfl,qi h 5 rfl,qi h 6 rfl,qi h 7 rfl,qi h 8 rfl⟩,⟨qi h 9 rfl,qi h 10 rfl,qi h 11 rfl,qi h 12 rfl,qi h 13 rfl⟩,qi h 14 rfl,qi h 15 rfl,qi h 16 rfl⟩
end
section
open Go.RowKit Go.Lib
structure Hg (x:Itm):Prop where
 bl:x.rep.bl.length<=100000
 asks:x.msg.asks.length<=100000
 lost:x.msg.lost.length<=100000
 oth:x.oth.2.2.1.length<=1000000
end
section
open Go.RowKit Go.Lib
def Al {j:Nat} (h:j<l.length):l.drop j=l.getD j 0::l.drop (j+1):=by
 rw[G3 h,ϑ,ϖ h,ϩ]
def Qa (l:List Int) (v:Value) (w:World) (aa:SlI .i64 w v l):
  Calls prog 242 #[v] w λe w'=>e= .returned (ι (vM l))/\w=w':=by
 obtain⟨ag,cap,rfl,ae,J,_⟩:=aa;have U:=κ J;clear J
 go_enter func242,ntmps242
 go_wp2
 go_loop [7] (λH=> ∃j:Nat,j<=l.length/\H= ι j/\vM l=vM (l.drop j)) (λH=>l.length-(intOf H).toNat)
 case atStart=>exact⟨0,τ,rfl,rfl⟩
 case round=>
  obtain⟨j,ad,rfl,N⟩:=hrel;have d:=κ N;clear N;by_cases hlt:j<l.length
  ·obtain⟨b,ah,rfl,ab,ac⟩:=U.o j hlt;have I:=κ (Al hlt);have af:(j:Int)<(l.length:Int):=by omega
   generalize l.getD j 0=x at *;by_cases hx:x=0
   ·have Y:(x != 0)=ύ:=by simp[hx]
    have G:=κ hx;clear hx;go_wp2
    go_round
    case rel=>exact⟨j+1,τ,by go_num,by rw[d.o,I.o];show (if x=0 then _ else _)=_;rw[ϒ G.o]⟩
    case measure=>simp[intOf];omega
   ·have Y:(x != 0)=ό:=by simp[hx]
    have G:=κ hx;clear hx;go_wp2;go_ret;exact⟨by rw[d.o,I.o];show _=Ending.returned (ι (if x=0 then _ else _));rw[ώ G.o];rfl,rfl⟩
  ·obtain rfl:j=l.length:=by omega
   have O:Hid (vM l=0):=κ (by rw[d.o,List.drop_length];rfl);go_wp2;go_ret;exact⟨by rw[O.o];rfl,rfl⟩
def GF (w:World) (v vo:Value):Prop:=xg w v∨v=vo
def SlI.off2 (h:SlI k w v l) (H:l≠[]-> ∀b,v.ownBlock=ϊ b-> ¬D b) (a:qk D w w'):SlI k w' v l:=by
 by_cases e:l=[]
 ·subst e;obtain⟨I,cap,rfl,d,J,G⟩:=h;exact⟨I,cap,rfl,d,λi hi=>by simp at hi,G⟩
 ·exact h.off (H e) a
def SlI.old (h:SlI k w v l) (H:l≠[]) (d:v.ownBlock=ϊ b):b<w.heap.size:=by
 obtain⟨U,cap,rfl,N,G,O⟩:=h;obtain⟨J,Y,rfl,I,_⟩:=G 0 (C0.2 H);injection d with d
 subst d;exact I
end
section
open Go.RowKit Go.Lib
def gy: ∀(n:Nat) (acc:List (Int×Int)) (s:RdS),s.1.length<=n->(js n acc s).1.length<=acc.length+s.1.length
 | 0,acc,s,_=>G0 _ _
 | n+1,acc,s,h=>by
  by_cases hs:s.1=[]
  ·obtain⟨l,e⟩:=s;simp only at hs;subst hs;rw[yg];exact G0 _ _
  ·rw[yG hs];have G:=Zl hs;have d:=gy n (acc++[(gg s).1]) (gg s).2 τ;rw[Ϗ,B4] at d;omega
def gu: ∀(n:Nat) (acc:List Int) (s:RdS),s.1.length<=n->(jh n acc s).1.length<=acc.length+17* s.1.length
 | 0,acc,s,_=>G0 _ _
 | n+1,acc,s,h=>by
  by_cases hs:s.1=[]
  ·obtain⟨l,e⟩:=s;simp only at hs;subst hs;rw[gp];exact G0 _ _
  ·rw[wF hs];have G:=Pb hs;have I:=Kv acc (prS s).1 (prS s).2;have d:=gu n (acc++prN (prS s).1) (Qh acc (prS s).1 (prS s).2) τ;have H:=(Pd (prS s).1).2;rw[Ϗ] at d;omega
def DS (s:RdS):(xZ s).1.length<=s.1.length:=by
 unfold xZ;split
 ·exact km s 2
 ·exact ϕ _
def Uh (h:c.2.2.1.length<=400):(qM c).1.asks.length<=100000/\(qM c).1.lost.length<=100000:=by
 have H: ∀(m:Msg) (s:RdS),m.asks.length<=100000/\m.lost.length<=100000->(kI m s).1.asks.length<=100000/\(kI m s).1.lost.length<=100000:=by
  intro m s h;unfold kI;split
  ·exact h
  ·exact⟨Ϻ _,Ϻ _⟩
 have I:(tkS (tkS (c.2.2.1,0) 4) 4).1.length<=400:=ϙ (wJ _ _) (ϙ (wJ _ _) h);unfold qM;split
 ·exact⟨Ϻ _,Ϻ _⟩
 ·split
  ·exact⟨Ϻ _,Ϻ _⟩
  ·unfold vZ;generalize tkS (tkS (c.2.2.1,0) 4) 4=s at *;split
   ·have d:=YP (zg (tkS (c.2.2.1,0) 4)) s;have G:=gy s.1.length [] (yc (zg (tkS (c.2.2.1,0) 4)) s) d;exact H _ _ ⟨by simp only[ϱ] at G ⊢;omega,Ϻ _⟩
   ·split
    ·have d:=DS s;have G:=gu s.1.length [] (xZ s) d;exact H _ _ ⟨Ϻ _,by simp only[ϱ] at G ⊢;omega⟩
    ·exact H _ _ ⟨Ϻ _,Ϻ _⟩
end
section
open Go.RowKit Go.Lib
def jd.other {R:qO α} {D':Nat->Prop} (h:jd n R D w base e v L) (k: ∀b,D' b->D b∨w.heap.size<=b):jd n R D' w base e v L:=by
 obtain⟨⟨xs,G,H⟩,I⟩:=id h;refine⟨⟨xs,G,λi hi=>(H i hi).other λb d=> ?_⟩,λb d J=> ?_⟩
 ·rcases d with d | d
  ·exact(k b d).elim (λx=>ϐ (ϐ x)) ϓ
  ·exact ϐ (ϓ d)
 ·rcases k b J with x | x
  ·exact I b d x
  ·have:=h.lt d;omega
def jd.beside {R:qO α} {G:Value} (h:jd n R (λb=>u.ownBlock=ϊ b) w base e v L) (g:w.grownBy w' u.ownBlock) (N:G.ownBlock=u.ownBlock∨G.ownBlock=ϊ w.heap.size):jd n R (λb=>G.ownBlock=ϊ b) w' base e v L:=by
 have H:=h.other (D':=λb=>u.ownBlock=ϊ b∨w.heap.size<=b) (λb d=>d);have a:qk (λb=>u.ownBlock=ϊ b∨w.heap.size<=b) w w':=⟨g.os,g.tape,g.output,g.size,λk I J=>g.block k I (λe=>J (ϐ e.symm))⟩;refine(H.step a).other λb d=>ϐ ?_
 rcases N with e | e
 ·exact ϐ (by rw[<-e];exact d)
 ·rw[e] at d;injection d with d;exact ϓ τ
def Aq (s:SlI .u8 w d c.2.2.1) (H:xD c) (G:c.2.2.1≠[]-> ∀g,d.ownBlock=ϊ g-> ¬D g):jv vd D w [υ c.1,υ c.2.1,d] c:=
 λ_ a=>KR (s.off2 G a) H
def j7 {size:Nat} (h:w.ownsRow base e size v n xs): ∃oa cap,v= δ oa n cap:=by
 rcases h.2 with ⟨rfl,d⟩ | ⟨g,cap,cur,rfl,_⟩
 ·exact⟨ϋ,0,by rw[d]⟩
 ·exact⟨_,cap,rfl⟩
structure ChJ (w wr:World) (u v:Value) (A:List qY) (E:List Int):Prop where
 row:jd 3 vd (λb=>v.ownBlock=ϊ b) wr w.heap.size 291 u A
 errs:wr.ownsRow w.heap.size 29 1 v E.length (E.map (Value.int .i64))
 more:qh w wr
def ChJ.on {A:List qY} (h:ChJ w wr u v A E) (m:qh wr w'):ChJ w w' u v A E:=⟨h.row.on m,jJ h.errs m,h.more.trans m⟩
def ChJ.put {A A':List qY} (h:ChJ w wr u v A E) (I:jd 3 vd (λb=>v.ownBlock=ϊ b) w' w.heap.size 291 d A') (g:wr.grownBy w' u.ownBlock):ChJ w w' d v A' E:=
 ⟨I,Zw h.errs g (λb G e=>h.row.apart b e G),Below.grown h.more g h.more.size (λk H=>h.row.ge H)⟩
def ChJ.err {v':Value} {A:List qY} {E':List Int} (h:ChJ w wr u v A E) (G:w'.ownsRow w.heap.size 29 1 v' E'.length (E'.map (Value.int .i64))) (g:wr.grownBy w' v.ownBlock) (H:v'.ownBlock=v.ownBlock∨v'.ownBlock=ϊ wr.heap.size):ChJ w w' u v' A E':=
 ⟨h.row.beside g H,G,Below.grown h.more g h.more.size (λk d=>jP h.errs d)⟩
end
section
open Go.RowKit Go.Lib
def Mi {g:Nat} {cur:Array Value} (h:w.heap[g]? =ϊ (.cells cur e (0,0))) (cs:Array Value):(w.setRow g cs).heap[g]? =ϊ (.cells cs e (0,0)):=setRow_heap w g cur cs e (0,0) h
def Ht (w:World) (g:Nat) (cs:Array Value):qk (λk=>k=g) w (w.setRow g cs):=by
 refine⟨rfl,rfl,rfl,by simp[World.setRow],λb G d=> ?_⟩;unfold World.setRow;simp only;rw[G5,ώ (λe=>d e.symm)]
def zT {a:Act} (N:o.guard=ϋ) (G:TypeId) (x y:Operand) (O:o.op= .store G x y)
  (g:Nat) (t:TypeId) (c d:Array Value) (J:w.heap[g]? =ϊ (.cells c t (0,0))) (Y:a.eval x= γ g) (aa:a.eval y= θ d)
  (hi:(P.info? G).map (·.size)=ϊ d.size) (U:c.size=d.size) (H:d.all (·.oneCell')=ό)
  (h:wpList P ops Q rest (a.put o.dst undef) (w.setRow g d)):wpList P ops Q (o::rest) a w:=by
 refine wpList_plain N λK I=> ?_
 unfold Oper.wp execOp;simp only[O,Y,aa,Instr.storeAt,Instr.sureAddr,Sem.run_bind,Sem.run_pure,Result.andThen_ok,run_storeVar_row w g t G c d J hi U H];exact I _ _ h
def kD {I:Func} {p q:Tmp} {d:TypeId} (h:I.results= #[.cell p d,.tmp q]) (tmps:Array Value) (w:World) (g:Nat) (t:TypeId) (cs:Array Value) (G:TypeDesc) (H:Value)
  (O:tmps.getD p undef= γ g) (Y:tmps.getD q undef=H) (N:w.heap[g]? =ϊ (.cells cs t (0,0)))
  (ab:P.underlying d=ϊ G) (J:(match G with | .struct _ | .array _ _=>ό | _=>ύ)=ό) (hi:(P.info? d).map (·.size)=ϊ cs.size):
  (results I tmps).run P w= .ok (.tuple #[θ cs,H]) w:=by
 have U:tmps[p]?.getD undef= γ g:=by simpa using O
 have aa:tmps[q]?.getD undef=H:=by simpa using Y
 simp[results,h,U,aa,asAddr,run_loadVar_row w g t d cs (0,0) G N ab J hi]
def Bu {t:Nat} (h:w.heap[B]? =ϊ (.cells cs t (0,0))) (cs':Array Value): ∃W,w.setRow B cs'=W/\W.heap[B]? =ϊ (.cells cs' t (0,0))/\qk (λb=>b=B) w W:=⟨_,rfl,Mi h cs',Ht _ _ _⟩
def ZH (c:qY) (U:Option Addr) (N:Nat) (w:World) (s:SlI .u8 w (δ U c.2.2.1.length N) c.2.2.1) (ae:xD c) (av:c.2.2.1.length<=400) (aa:c.2.1=200∨c.2.1=201):
  Calls prog 241 #[θ #[υ c.1,υ c.2.1,δ U c.2.2.1.length N]] w λe w'=>(∃vb va vl vo,e= .returned (.tuple #[θ #[ι (qx c).1.kind,μ (qx c).1.rep.snd,ω (qx c).1.rep.src,ω (qx c).1.rep.inf.sec,ω (qx c).1.rep.inf.frac,ω (qx c).1.rep.inf.stamp,ω (qx c).1.rep.inf.pkts,ω (qx c).1.rep.inf.octs,vb,ι (qx c).1.msg.kind,ω (qx c).1.msg.snd,ω (qx c).1.msg.med,va,vl,υ (qx c).1.oth.1,υ (qx c).1.oth.2.1,vo],ι (qx c).2])/\PM w' vb va vl vo (qx c).1/\xg w vb/\xg w va/\xg w vl/\GF w vo (δ U c.2.2.1.length N))/\qh w w':=by
 have S:=κ s;have ah:=κ ae;have ap:c.2.2.1.length<=1000000:=by omega
 obtain⟨J,O⟩:=ν ((w.alloc (.cells #[υ c.1,υ c.2.1,δ U c.2.2.1.length N] 291)).alloc (.cells Γf 293));have Y:Hid (qh w J):=κ (by rw[<-O];exact Z0.al _);have ab:Hid (J.heap[w.heap.size+1]? =ϊ (.cells Γf 293 (0,0))):=κ (by rw[<-O];exact qH η);have I:=κ O;clear s ae O;have ag:Hid (qx c=(⟨1,(qI c).1,XK,PG⟩,(qI c).2)):=κ (by unfold qx;rw[ϒ aa]);rw[ag.o];have ai:=κ (Gi (w:=J) c (S.o.keep Y.o) ah.o ap);have H:(c.2.1==200)=ό∨((c.2.1==200)=ύ/\(c.2.1==201)=ό):=by
  rcases aa with h | h
  ·exact ϐ (by rw[h];rfl)
  ·exact ϓ ⟨by rw[h];rfl,by rw[h];rfl⟩
 clear aa;rcases H with b1 | ⟨b1,b2⟩
 all_goals
  go_enter func241,ntmps241
  go_wp2_with (first | (go_at_call 280;(go_call (I.o▸ai.o) as e w1 ⟨⟨vb,rfl,s1,af⟩,m⟩;have am:=κ s1;have ak:=κ af;obtain⟨G,d,rfl,_⟩:=s1;have aj:=κ (Y.o.trans (I.o▸m));have ac:=κ (qv (qj (I.o▸m) ab.o) (.cells #[μ (qI c).1.snd,ω (qI c).1.src,ω (qI c).1.inf.sec,ω (qI c).1.inf.frac,ω (qI c).1.inf.stamp,ω (qI c).1.inf.pkts,ω (qI c).1.inf.octs,δ G (qI c).1.bl.length d] 289));clear m af)) | (refine xd rfl 289 (.tmp 4) (.tmp 19) rfl w1 _ #[μ (qI c).1.snd,ω (qI c).1.src,ω (qI c).1.inf.sec,ω (qI c).1.inf.frac,ω (qI c).1.inf.stamp,ω (qI c).1.inf.pkts,ω (qI c).1.inf.octs,δ G (qI c).1.bl.length d] rfl rfl rfl ξ rfl rfl ?_) | (refine wpList_load_row rfl 289 (.tmp 4) rfl w1.heap.size rfl _ #[μ (qI c).1.snd,ω (qI c).1.src,ω (qI c).1.inf.sec,ω (qI c).1.inf.frac,ω (qI c).1.inf.stamp,ω (qI c).1.inf.pkts,ω (qI c).1.inf.octs,δ G (qI c).1.bl.length d] _ _ (heap_alloc_new w1 _) underlying289 rfl ξ ?_) | (refine zT rfl 293 (.tmp 2) (.tmp 22) rfl (w.heap.size+1) _ _ #[ι 1,μ (qI c).1.snd,ω (qI c).1.src,ω (qI c).1.inf.sec,ω (qI c).1.inf.frac,ω (qI c).1.inf.stamp,ω (qI c).1.inf.pkts,ω (qI c).1.inf.octs,δ G (qI c).1.bl.length d,ι 0,ω 0,ω 0,(),(),υ 0,υ 0,()] ac.o rfl rfl ξ rfl (all_oneCell_toArray Z5) ?_))
  obtain⟨WF,ao,an,a3⟩:=Bu ac.o #[ι 1,μ (qI c).1.snd,ω (qI c).1.src,ω (qI c).1.inf.sec,ω (qI c).1.inf.frac,ω (qI c).1.inf.stamp,ω (qI c).1.inf.pkts,ω (qI c).1.inf.octs,δ G (qI c).1.bl.length d,ι 0,ω 0,ω 0,(),(),υ 0,υ 0,()];rw[ao];have aq:=qk.to_more (aj.o.al _) a3 (λb e=>by omega);have ad:xg J (δ G (qI c).1.bl.length d):=by rw[<-I.o];exact ak.o
  have au:SlP 7 Y7 WF (δ G (qI c).1.bl.length d) (qI c).1.bl:=Vh (am.o.keep Fl Z0) (λb H (e:b=w.heap.size+1)=>by have:=ad b H;have:=qq ab.o;omega) a3;have ar:xg w (δ G (qI c).1.bl.length d):=λb H=>by have:=ad b H;have:=Y.o.size;omega
  refine bodyPost_ret (v:= .tuple #[θ #[ι 1,μ (qI c).1.snd,ω (qI c).1.src,ω (qI c).1.inf.sec,ω (qI c).1.inf.frac,ω (qI c).1.inf.stamp,ω (qI c).1.inf.pkts,ω (qI c).1.inf.octs,δ G (qI c).1.bl.length d,ι 0,ω 0,ω 0,(),(),υ 0,υ 0,()],ι (qI c).2]) (kD results241 _ _ (w.heap.size+1) _ _ _ _ rfl rfl an underlying293 rfl ξ) rfl ?_;exact⟨⟨_,_,_,_,rfl,⟨au,⟨SlP.nil _ _ _,SlI.nil _ _⟩,SlI.nil _ _⟩,ar,xg.nil w,xg.nil w,ϐ (xg.nil w)⟩,aq⟩
def Gl (c:qY) (U:Option Addr) (N:Nat) (w:World) (s:SlI .u8 w (δ U c.2.2.1.length N) c.2.2.1) (aA:xD c) (aB:c.2.2.1.length<=400) (ad: ¬c.2.1=200) (ae: ¬c.2.1=201):
  Calls prog 241 #[θ #[υ c.1,υ c.2.1,δ U c.2.2.1.length N]] w λe w'=>(∃vb ah ai vo,e= .returned (.tuple #[θ #[ι (qx c).1.kind,μ (qx c).1.rep.snd,ω (qx c).1.rep.src,ω (qx c).1.rep.inf.sec,ω (qx c).1.rep.inf.frac,ω (qx c).1.rep.inf.stamp,ω (qx c).1.rep.inf.pkts,ω (qx c).1.rep.inf.octs,vb,ι (qx c).1.msg.kind,ω (qx c).1.msg.snd,ω (qx c).1.msg.med,ah,ai,υ (qx c).1.oth.1,υ (qx c).1.oth.2.1,vo],ι (qx c).2])/\PM w' vb ah ai vo (qx c).1/\xg w vb/\xg w ah/\xg w ai/\GF w vo (δ U c.2.2.1.length N))/\qh w w':=by
 have S:=κ s;have aC:=κ aA;have aE:c.2.2.1.length<=1000000:=by omega
 obtain⟨aa,af⟩:=ν ((w.alloc (.cells #[υ c.1,υ c.2.1,δ U c.2.2.1.length N] 291)).alloc (.cells Γf 293));have ac:Hid (qh w aa):=κ (by rw[<-af];exact Z0.al _);have az:Hid (aa.heap[w.heap.size]? =ϊ (.cells #[υ c.1,υ c.2.1,δ U c.2.2.1.length N] 291 (0,0))):=κ (by rw[<-af];exact qv (qp w _) _);have aj:Hid (aa.heap[w.heap.size+1]? =ϊ (.cells Γf 293 (0,0))):=κ (by rw[<-af];exact qH η);have J:=κ af;clear s aA af;have aK:(c.2.1==200)=ύ:=beq_eq_false_iff_ne.2 ad;have aL:(c.2.1==201)=ύ:=beq_eq_false_iff_ne.2 ae;have aw:=κ (Gh (w:=aa) c (S.o.keep ac.o) aC.o aE);by_cases h5:(qM c).2=5
 ·have am:Hid (qx c=(⟨3,Ja,XK,c⟩,0)):=κ (by unfold qx;rw[ώ (λe=>e.elim ad ae),ϒ h5]);rw[am.o];have aD:((qM c).2==5)=ό:=by rw[h5];rfl
  clear ad ae h5
  go_enter func241,ntmps241
  go_wp2_with (first | (go_at_call 281;(go_call (J.o▸aw.o) as e w1 ⟨⟨ah,ai,rfl,s1,ag,n2⟩,m⟩;have an:=κ s1;have ax:=κ ag;have ay:=κ n2;obtain⟨⟨H,d,rfl,_⟩,⟨I,G,rfl,_⟩⟩:=id s1;have ak:=κ (ac.o.trans (J.o▸m));have ab:=κ (qv (qj (J.o▸m) aj.o) (.cells #[ι (qM c).1.kind,ω (qM c).1.snd,ω (qM c).1.med,δ H (qM c).1.asks.length d,δ I (qM c).1.lost.length G] 283));have Y:=κ (qv (qj (J.o▸m) az.o) (.cells #[ι (qM c).1.kind,ω (qM c).1.snd,ω (qM c).1.med,δ H (qM c).1.asks.length d,δ I (qM c).1.lost.length G] 283));have aH:=β0 Y.o;have aI:=β1 Y.o;have aJ:=β2 Y.o;clear m ag n2 s1)) | (refine xd rfl 283 (.tmp 6) (.tmp 27) rfl w1 _ #[ι (qM c).1.kind,ω (qM c).1.snd,ω (qM c).1.med,δ H (qM c).1.asks.length d,δ I (qM c).1.lost.length G] rfl rfl rfl ξ rfl rfl ?_) | (refine zT rfl 293 (.tmp 2) (.tmp 32) rfl (w.heap.size+1) _ _ #[ι 3,ύ,ω 0,ω 0,ω 0,ω 0,ω 0,ω 0,(),ι 0,ω 0,ω 0,(),(),υ c.1,υ c.2.1,δ U c.2.2.1.length N] ab.o rfl rfl ξ rfl (all_oneCell_toArray Z5) ?_))
  obtain⟨WF,ap,ao,a3⟩:=Bu ab.o #[ι 3,ύ,ω 0,ω 0,ω 0,ω 0,ω 0,ω 0,(),ι 0,ω 0,ω 0,(),(),υ c.1,υ c.2.1,δ U c.2.2.1.length N];rw[ap];have aq:=qk.to_more (ak.o.al _) a3 (λb e=>by omega);have ar:SlI .u8 WF (δ U c.2.2.1.length N) c.2.2.1:=SlI.off2 (S.o.keep (ak.o.al _)) (λaB b O (e:b=w.heap.size+1)=>by have:=S.o.old aB O;omega) a3;refine bodyPost_ret (v:= .tuple #[θ #[ι 3,ύ,ω 0,ω 0,ω 0,ω 0,ω 0,ω 0,(),ι 0,ω 0,ω 0,(),(),υ c.1,υ c.2.1,δ U c.2.2.1.length N],ι 0]) (kD results241 _ _ (w.heap.size+1) _ _ _ _ rfl rfl ao underlying293 rfl ξ) rfl ?_;exact⟨⟨_,_,_,_,rfl,⟨SlP.nil _ _ _,⟨SlP.nil _ _ _,SlI.nil _ _⟩,ar⟩,xg.nil w,xg.nil w,xg.nil w,ϓ rfl⟩,aq⟩
 ·have am:Hid (qx c=(⟨2,Ja,(qM c).1,PG⟩,(qM c).2)):=κ (by unfold qx;rw[ώ (λe=>e.elim ad ae),ώ h5]);rw[am.o];have aD:((qM c).2==5)=ύ:=beq_eq_false_iff_ne.2 h5;clear ad ae h5
  go_enter func241,ntmps241
  go_wp2_with (first | (go_at_call 281;(go_call (J.o▸aw.o) as e w1 ⟨⟨ah,ai,rfl,s1,ag,n2⟩,m⟩;have an:=κ s1;have ax:=κ ag;have ay:=κ n2;obtain⟨⟨H,d,rfl,_⟩,⟨I,G,rfl,_⟩⟩:=id s1;have ak:=κ (ac.o.trans (J.o▸m));have ab:=κ (qv (qj (J.o▸m) aj.o) (.cells #[ι (qM c).1.kind,ω (qM c).1.snd,ω (qM c).1.med,δ H (qM c).1.asks.length d,δ I (qM c).1.lost.length G] 283));have Y:=κ (qv (qj (J.o▸m) az.o) (.cells #[ι (qM c).1.kind,ω (qM c).1.snd,ω (qM c).1.med,δ H (qM c).1.asks.length d,δ I (qM c).1.lost.length G] 283));have aH:=β0 Y.o;have aI:=β1 Y.o;have aJ:=β2 Y.o;clear m ag n2 s1)) | (refine xd rfl 283 (.tmp 6) (.tmp 27) rfl w1 _ #[ι (qM c).1.kind,ω (qM c).1.snd,ω (qM c).1.med,δ H (qM c).1.asks.length d,δ I (qM c).1.lost.length G] rfl rfl rfl ξ rfl rfl ?_) | (refine wpList_load_row rfl 283 (.tmp 6) rfl w1.heap.size rfl _ #[ι (qM c).1.kind,ω (qM c).1.snd,ω (qM c).1.med,δ H (qM c).1.asks.length d,δ I (qM c).1.lost.length G] _ _ (heap_alloc_new w1 _) underlying283 rfl ξ ?_) | (refine zT rfl 293 (.tmp 2) (.tmp 34) rfl (w.heap.size+1) _ _ #[ι 2,ύ,ω 0,ω 0,ω 0,ω 0,ω 0,ω 0,(),ι (qM c).1.kind,ω (qM c).1.snd,ω (qM c).1.med,δ H (qM c).1.asks.length d,δ I (qM c).1.lost.length G,υ 0,υ 0,()] ab.o rfl rfl ξ rfl (all_oneCell_toArray Z5) ?_))
  obtain⟨WF,ap,ao,a3⟩:=Bu ab.o #[ι 2,ύ,ω 0,ω 0,ω 0,ω 0,ω 0,ω 0,(),ι (qM c).1.kind,ω (qM c).1.snd,ω (qM c).1.med,δ H (qM c).1.asks.length d,δ I (qM c).1.lost.length G,υ 0,υ 0,()];rw[ap];have aq:=qk.to_more (ak.o.al _) a3 (λb e=>by omega);have au:xg aa (δ H (qM c).1.asks.length d):=by rw[<-J.o];exact ax.o
  have av:xg aa (δ I (qM c).1.lost.length G):=by rw[<-J.o];exact ay.o
  have ar:Bn WF (δ H (qM c).1.asks.length d) (δ I (qM c).1.lost.length G) (qM c).1:=⟨Xt (an.o.asks.keep Fm Z0) (λb O (e:b=w.heap.size+1)=>by have:=au b O;have:=qq aj.o;omega) a3,SlI.off (an.o.lost.keep Z0) (λb O (e:b=w.heap.size+1)=>by have:=av b O;have:=qq aj.o;omega) a3⟩;have aF:xg w (δ H (qM c).1.asks.length d):=λb O=>by have:=au b O;have:=ac.o.size;omega
  have aG:xg w (δ I (qM c).1.lost.length G):=λb O=>by have:=av b O;have:=ac.o.size;omega
  refine bodyPost_ret (v:= .tuple #[θ #[ι 2,ύ,ω 0,ω 0,ω 0,ω 0,ω 0,ω 0,(),ι (qM c).1.kind,ω (qM c).1.snd,ω (qM c).1.med,δ H (qM c).1.asks.length d,δ I (qM c).1.lost.length G,υ 0,υ 0,()],ι (qM c).2]) (kD results241 _ _ (w.heap.size+1) _ _ _ _ rfl rfl ao underlying293 rfl ξ) rfl ?_;exact⟨⟨_,_,_,_,rfl,⟨SlP.nil _ _ _,ar,SlI.nil _ _⟩,xg.nil w,aF,aG,ϐ (xg.nil w)⟩,aq⟩
def Gm (c:qY) (G:Option Addr) (d:Nat) (w:World) (s:SlI .u8 w (δ G c.2.2.1.length d) c.2.2.1) (H:xD c) (I:c.2.2.1.length<=400):
  Calls prog 241 #[θ #[υ c.1,υ c.2.1,δ G c.2.2.1.length d]] w λe w'=>(∃vb va vl vo,e= .returned (.tuple #[θ #[ι (qx c).1.kind,μ (qx c).1.rep.snd,ω (qx c).1.rep.src,ω (qx c).1.rep.inf.sec,ω (qx c).1.rep.inf.frac,ω (qx c).1.rep.inf.stamp,ω (qx c).1.rep.inf.pkts,ω (qx c).1.rep.inf.octs,vb,ι (qx c).1.msg.kind,ω (qx c).1.msg.snd,ω (qx c).1.msg.med,va,vl,υ (qx c).1.oth.1,υ (qx c).1.oth.2.1,vo],ι (qx c).2])/\PM w' vb va vl vo (qx c).1/\xg w vb/\xg w va/\xg w vl/\GF w vo (δ G c.2.2.1.length d))/\qh w w':=by
 by_cases h1:c.2.1=200
 ·exact ZH c G d w s H I (ϐ h1)
 ·by_cases h2:c.2.1=201
  ·exact ZH c G d w s H I (ϓ h2)
  ·exact Gl c G d w s H I h1 h2
end
section
open Go.RowKit Go.Lib
def IG {vb G vo:Value} {x:Itm} (s:PM w vb d G vo x) (O:GD x) (I: ∀g,vb.ownBlock=ϊ g-> ¬D g) (H: ∀g,d.ownBlock=ϊ g-> ¬D g) (J: ∀g,G.ownBlock=ϊ g-> ¬D g) (N:x.oth.2.2.1≠[]-> ∀g,vo.ownBlock=ϊ g-> ¬D g):jv Je D w (Mc x vb d G vo) x:=
 λ_ a=>⟨vb,d,G,vo,rfl,⟨Vh s.bl I a,⟨Xt s.ms.asks H a,s.ms.lost.off J a⟩,s.bo.off2 N a⟩,O⟩
def Fp (d:xD c):GD (qx c).1:=by
 unfold qx;split
 ·exact⟨En d,Qw,Ph⟩
 split
 ·exact⟨Pa,Qw,d⟩
 ·exact⟨Pa,Eo d,Ph⟩
def Zb {k:List qY} (h:szC k<=200) (i:Nat) (hi:i<k.length):(k.getD i xL).2.2.1.length<=400/\k.length<=200:=by
 have H:(k.getD i xL).2.2.1.length+4<=szC k:=by
  have:=Za k i hi;have:=BN k (i+1);omega
 have d: ∀j,j<=k.length->j<=szC (k.take j):=by
  intro j
  induction j with
  | zero=>intro _;omega
  | succ j ih=>
   intro I;have:=Za k j τ;have:=ih τ;omega
 have G:=d k.length (ϕ _);rw[ϭ] at G;omega
structure ItJ (w wr:World) (u v:Value) (A:List Itm) (E:List Int):Prop where
 row:jd 17 Je (λb=>v.ownBlock=ϊ b) wr w.heap.size 293 u A
 errs:wr.ownsRow w.heap.size 29 1 v E.length (E.map (Value.int .i64))
 more:qh w wr
def ItJ.on (h:ItJ w wr u v A E) (m:qh wr w'):ItJ w w' u v A E:=⟨h.row.on m,jJ h.errs m,h.more.trans m⟩
def ItJ.put {A':List Itm} (h:ItJ w wr u v A E) (I:jd 17 Je (λb=>v.ownBlock=ϊ b) w' w.heap.size 293 d A') (g:wr.grownBy w' u.ownBlock):ItJ w w' d v A' E:=
 ⟨I,Zw h.errs g (λb G e=>h.row.apart b e G),Below.grown h.more g h.more.size (λk H=>h.row.ge H)⟩
def ItJ.err {v':Value} {E':List Int} (h:ItJ w wr u v A E) (G:w'.ownsRow w.heap.size 29 1 v' E'.length (E'.map (Value.int .i64))) (g:wr.grownBy w' v.ownBlock) (H:v'.ownBlock=v.ownBlock∨v'.ownBlock=ϊ wr.heap.size):ItJ w w' u v' A E':=
 ⟨h.row.beside g H,G,Below.grown h.more g h.more.size (λk d=>jP h.errs d)⟩
def wV {G:World} {x:Value} (h:ItJ w wr u v A E) (J:wr.heap.size<=G.heap.size) (f:xg G x): ∀g,x.ownBlock=ϊ g-> ¬(v.ownBlock=ϊ g∨u.ownBlock=ϊ g):=by
 intro g H d;have I:=f g H;rcases d with d | d
 ·have:=Qv h.errs d;omega
 ·have:=h.row.lt d;omega
def WR {Y:World} {N O:Option Addr} {U J:Nat} {c G:List Int} (h:ItJ w wr u v A E) (f:GF Y (δ N c.length U) (δ O G.length J)) (ad:SlI .u8 w (δ O G.length J) G) (ac:wr.heap.size<=Y.heap.size):
  c≠[]-> ∀g,(δ N c.length U).ownBlock=ϊ g-> ¬(v.ownBlock=ϊ g∨u.ownBlock=ϊ g):=by
 intro ab g I d;rcases f with f | f
 ·exact wV h ac f g I d
 ·have H:=f;injection H with _ H _
  have aa:G≠[]:=λe=>ab (Ϥ (by rw[H,e];rfl))
  rw[f] at I;have ae:=ad.old aa I;rcases d with d | d
  ·have:=jP h.errs d;omega
  ·have:=h.row.ge d;omega
def AT (b:List Int) (v:Value) (w:World) (H:SlI .u8 w v b) (O:Byt b) (U:b.length<=1000000) (d: ¬(jT b).2=0):
  Calls prog 188 #[v] w λe w'=> ∃vx,e= .returned (.tuple #[vx,ι (zv b).2])/\SlP 17 Je w' vx (zv b).1/\qh w w':=by
 have J:=κ (YR v b w H O U);have I:Hid (zv b=([],(jT b).2)):=κ (by unfold zv;rw[ώ d]);have Y:((jT b).2 != 0)=ό:=by simp[d]
 clear H d;rw[I.o]
 go_enter func188,ntmps188
 go_wp2_with (go_at_call 240;(go_call J.o as e w1 ⟨aa,rfl,s1,G⟩;have N:=κ G;clear s1 G))
 go_ret2
 exact⟨_,rfl,SlP.nil _ _ _,N.o⟩
def Gg (b:List Int) (v:Value) (w:World) (sl:SlI .u8 w v b) (aD:Byt b) (bf:b.length<=1000000) (ae:(jT b).2=0):
  Calls prog 188 #[v] w λe w'=> ∃vx,e= .returned (.tuple #[vx,ι (zv b).2])/\SlP 17 Je w' vx (zv b).1/\qh w w':=by
 obtain⟨bm,hi,bg,bh,bi⟩:=info_parts (P:=prog) (e:=293) (z:= Γf) (size:=17) (bytes:=160) ξ;obtain⟨bn,bp,bq,br,bs⟩:=info_parts (P:=prog) (e:=29) (z:= ι 0) (size:=1) (bytes:=8) ξ;have ac:=κ (YR v b w sl aD bf);have ay:Hid (szC (jT b).1<=200):=κ (JN aD (k:=(jT b).1) (by rw[<-ae])).2.2.2;have G:Hid (zv b=if vM ((jT b).1.map λc=>(qx c).2)=0 then ((jT b).1.map λc=>(qx c).1,0) else ([],vM ((jT b).1.map λc=>(qx c).2))):=κ (by unfold zv;rw[ϒ ae]);have aT:=κ ae;clear sl ae;generalize (jT b).1=l at *
 go_enter func188,ntmps188
 go_wp2_with (go_at_call 240;(go_call ac.o as e w1 ⟨bN,rfl,s1,aL⟩;rw[aT.o];have bu:=κ s1;have az:=κ aL;obtain⟨bI,cap,rfl,bD,aG⟩:=Ci s1;have aV:=κ aG;clear s1 aL aG))
 have aZ:Hid (ItJ w1 w1 (δ ϋ 0 0) (δ ϋ 0 0) [] []):=κ ⟨jd.nil _ _ _ _ _ _,World.ownsRow_nil _ _ _ _,qh.refl _⟩;clear ac
 go_loopw [6,7,23] (λu v an wr=> ∃(j:Nat),j<=l.length/\an= ι j/\(∃ar ao ah au ap ai,u= δ ar ao ah/\v= δ au ap ai/\ItJ w1 wr (δ ar ao ah) (δ au ap ai) ((l.take j).map λc=>(qx c).1) ((l.take j).map λc=>(qx c).2))) (λ_ _ an _=>l.length-(intOf an).toNat)
 case atStart=>exact⟨0,τ,rfl,_,_,_,_,_,_,rfl,rfl,aZ.o⟩
 case round=>
  obtain⟨j,bB,rfl,ar,ao,ah,au,ap,ai,rfl,rfl,aC⟩:=hrel;have d:=κ aC;clear aC;by_cases hlt:j<l.length
  ·obtain⟨bw,bJ,vb,rfl,bd,am⟩:=aV.o j hlt;obtain⟨bx,c1,c2,aJ,aF⟩:=am.more d.o.more bd;have aX:=κ am.sl;have av:=κ aF;have aY:=κ aJ;obtain⟨aE,bE⟩:=Zb ay.o j hlt;have aU:=κ aE;have bC:(j:Int)<(l.length:Int):=by omega
   have ac:=κ (kX l j xL hlt);have aw:Hid ((l.take j).length=j/\j<=200):=κ ⟨by simp;omega,τ⟩;clear am aF aE;generalize l.take j=acc at *;generalize l.getD j xL=c at *;obtain⟨aq,ag,rfl,_⟩:=aJ
   go_wp2_with (first | (go_at_call 241;(go_call Gm c aq ag _ (aY.o.keep Z0) av.o aU.o as e w2 ⟨⟨bM,bL,bO,bP,rfl,s2,n2,aN,aO,aB⟩,aM⟩;have bc:=κ s2;obtain⟨U,H,rfl,_⟩:=id s2.bl;obtain⟨Y,I,rfl,_⟩:=id s2.ms.asks;obtain⟨aa,J,rfl,_⟩:=id s2.ms.lost;obtain⟨ab,N,rfl,_⟩:=id s2.bo;have O:=(qh.alloc wr (.cells #[υ c.1,υ c.2.1,δ aq c.2.2.1.length ag] 291)).size;have aP:=κ (wV d.o O n2);have aQ:=κ (wV d.o O aN);have aR:=κ (wV d.o O aO);have aS:=κ (WR d.o aB aX.o O);have bb:=κ ((qh.alloc wr (.cells #[υ c.1,υ c.2.1,δ aq c.2.2.1.length ag] 291)).trans aM);clear aM n2 aN aO aB s2 O;have ad:=κ ((d.o.on bb.o).on ((qh.alloc w2 (.cells #[ι (qx c).1.kind,μ (qx c).1.rep.snd,ω (qx c).1.rep.src,ω (qx c).1.rep.inf.sec,ω (qx c).1.rep.inf.frac,ω (qx c).1.rep.inf.stamp,ω (qx c).1.rep.inf.pkts,ω (qx c).1.rep.inf.octs,δ U (qx c).1.rep.bl.length H,ι (qx c).1.msg.kind,ω (qx c).1.msg.snd,ω (qx c).1.msg.med,δ Y (qx c).1.msg.asks.length I,δ aa (qx c).1.msg.lost.length J,υ (qx c).1.oth.1,υ (qx c).1.oth.2.1,δ ab (qx c).1.oth.2.2.1.length N] 293)).al (.cells #[ι (qx c).1.kind,μ (qx c).1.rep.snd,ω (qx c).1.rep.src,ω (qx c).1.rep.inf.sec,ω (qx c).1.rep.inf.frac,ω (qx c).1.rep.inf.stamp,ω (qx c).1.rep.inf.pkts,ω (qx c).1.rep.inf.octs,δ U (qx c).1.rep.bl.length H,ι (qx c).1.msg.kind,ω (qx c).1.msg.snd,ω (qx c).1.msg.med,δ Y (qx c).1.msg.asks.length I,δ aa (qx c).1.msg.lost.length J,υ (qx c).1.oth.1,υ (qx c).1.oth.2.1,δ ab (qx c).1.oth.2.2.1.length N] 293))))) | (refine xd rfl 293 (.tmp 10) (.tmp 30) rfl w2 _ #[ι (qx c).1.kind,μ (qx c).1.rep.snd,ω (qx c).1.rep.src,ω (qx c).1.rep.inf.sec,ω (qx c).1.rep.inf.frac,ω (qx c).1.rep.inf.stamp,ω (qx c).1.rep.inf.pkts,ω (qx c).1.rep.inf.octs,δ U (qx c).1.rep.bl.length H,ι (qx c).1.msg.kind,ω (qx c).1.msg.snd,ω (qx c).1.msg.med,δ Y (qx c).1.msg.asks.length I,δ aa (qx c).1.msg.lost.length J,υ (qx c).1.oth.1,υ (qx c).1.oth.2.1,δ ab (qx c).1.oth.2.2.1.length N] rfl rfl rfl ξ rfl (all_oneCell_toArray Z5) ?_) | (refine wpList_load_row rfl 293 (.tmp 10) rfl w2.heap.size rfl _ #[ι (qx c).1.kind,μ (qx c).1.rep.snd,ω (qx c).1.rep.src,ω (qx c).1.rep.inf.sec,ω (qx c).1.rep.inf.frac,ω (qx c).1.rep.inf.stamp,ω (qx c).1.rep.inf.pkts,ω (qx c).1.rep.inf.octs,δ U (qx c).1.rep.bl.length H,ι (qx c).1.msg.kind,ω (qx c).1.msg.snd,ω (qx c).1.msg.med,δ Y (qx c).1.msg.asks.length I,δ aa (qx c).1.msg.lost.length J,υ (qx c).1.oth.1,υ (qx c).1.oth.2.1,δ ab (qx c).1.oth.2.2.1.length N] _ _ (heap_alloc_new w2 _) underlying293 rfl ξ ?_) | (at_builtin;refine jr _ rfl (.tmp 32) (.tmp 34) 294 rfl w1.heap.size 293 bm (Γf) 17 160 underlying294 hi bg bh bi rfl ζ _ (acc.map λc=>(qx c).1) rfl ad.o.row (w2.heap.size+1) [ι (qx c).1.kind,μ (qx c).1.rep.snd,ω (qx c).1.rep.src,ω (qx c).1.rep.inf.sec,ω (qx c).1.rep.inf.frac,ω (qx c).1.rep.inf.stamp,ω (qx c).1.rep.inf.pkts,ω (qx c).1.rep.inf.octs,δ U (qx c).1.rep.bl.length H,ι (qx c).1.msg.kind,ω (qx c).1.msg.snd,ω (qx c).1.msg.med,δ Y (qx c).1.msg.asks.length I,δ aa (qx c).1.msg.lost.length J,υ (qx c).1.oth.1,υ (qx c).1.oth.2.1,δ ab (qx c).1.oth.2.2.1.length N] (qx c).1 rfl rfl (ze η) Z5 ((IG bc.o (Fp av.o) aP.o aQ.o aR.o aS.o).on (Z0.al _)) (λb h=>Qv ad.o.errs h) ζ (by have:=aw.o;rw[C3];omega) ad.o.more.size ?_;intro bK w8 aj aH be;have af:=κ (ad.o.put aj aH);obtain⟨bG,bF,bz,rfl,bj,bk⟩:=aj.shape;clear aj aH be bj bk) | (at_builtin;refine qR _ rfl (.tmp 36) (.tmp 38) 416 rfl w1.heap.size 29 bn (ι 0) 8 underlying416 bp bq br bs rfl _ .i64 (acc.map λc=>(qx c).2) rfl (af.o.on Z0).errs _ [(qx c).2] rfl (SlI.lit .i64 w8 [(qx c).2] 29 _ 1 _ rfl rfl rfl η) (by have:=aw.o;rw[C3];simp;omega) ζ (by have:=af.o.more.size;simp;omega) ?_;intro v9 w9 ak aI aK;have ba:=κ ((af.o.on Z0).err ak aI aK);obtain⟨bH,bA,aA⟩:=j7 ak;rw[show ((acc.map λc=>(qx c).2)++[(qx c).2]).length=acc.length+1 from by simp] at aA;subst aA;clear ak aI aK))
   go_roundw
   case rel=>exact⟨j+1,τ,by go_num,_,_,_,_,_,_,rfl,rfl,by rw[ac.o,Ξ,Ξ];exact ba.o⟩
   case measure=>simp[intOf];omega
  ·obtain rfl:j=l.length:=by omega
   rw[ϭ] at d
   have ax:Hid ((l.map λc=>(qx c).2).length<=1000):=κ (by
    rw[C3];by_cases he:0<l.length
    ·have:=(Zb ay.o 0 he).2;omega
    ·omega)
   by_cases hf:vM (l.map λc=>(qx c).2)=0
   ·have aW:=κ hf;rw[ϒ hf] at G;clear hf
    go_wp2_with (go_at_call 242;(go_call Qa (l.map λc=>(qx c).2) _ _ (SlI.of_owns d.o.errs (by have:=ax.o;omega)) as e bt ⟨rfl,rfl⟩;rw[aW.o]))
    go_ret2
    exact⟨_,by rw[G.o];rfl,by rw[G.o];exact d.o.row.sl ζ,az.o.trans d.o.more⟩
   ·have bv:(vM (l.map λc=>(qx c).2) != 0)=ό:=by simp[hf]
    rw[ώ hf] at G;clear hf
    go_wp2_with (go_at_call 242;(go_call Qa (l.map λc=>(qx c).2) _ _ (SlI.of_owns d.o.errs (by have:=ax.o;omega)) as e bt ⟨rfl,rfl⟩))
    go_ret2
    exact⟨_,by rw[G.o];rfl,by rw[G.o];exact SlP.nil _ _ _,az.o.trans d.o.more⟩
def AU (b:List Int) (v:Value) (w:World) (H:SlI .u8 w v b) (d:Byt b) (G:b.length<=1000000):
  Calls prog 188 #[v] w λe w'=> ∃vx,e= .returned (.tuple #[vx,ι (zv b).2])/\SlP 17 Je w' vx (zv b).1/\qh w w':=by
 by_cases h0:(jT b).2=0
 ·exact Gg b v w H d G h0
 ·exact AT b v w H d G h0
end
section
open Go.RowKit Go.Lib
def Qi (x:Itm):List Int:=if x.kind=2 then (if x.msg.kind=1 then [x.msg.med] else if x.msg.kind=2 then x.msg.asks.map Prod.fst else []) else []
def xR (l:List Itm):List Int:=l.flatMap Qi
def FG {x:Itm} (h:Hg x):(Qi x).length<=100000:=by
 unfold Qi;split
 ·split
  ·simp
  ·split
   ·rw[C3];exact h.asks
   ·simp
 ·simp
def Gb (l m:List Itm):xR (l++m)=xR l++xR m:=by simp[xR]
def Ga (x:Itm):xR [x]=Qi x:=by simp[xR]
def gV: ∀{l:List Itm},(∀x∈l,Hg x)->(xR l).length<=l.length* 100000
 | [],_=>by simp[xR]
 | x::l,h=>by
  have G:=FG (h x η);have H:=gV (l:=l) λy d=>h y (by simp[d])
  show ((Qi x)++xR l).length<=_;rw[Ϗ,Ϙ];omega
structure AsJ (w wr:World) (u:Value) (A:List Int):Prop where
 row:wr.ownsRow w.heap.size 38 1 u A.length (A.map (Value.int .u32))
 more:qh w wr
def AsJ.on {A:List Int} (h:AsJ w wr u A) (m:qh wr w'):AsJ w w' u A:=⟨jJ h.row m,h.more.trans m⟩
def AsJ.put {A A':List Int} (h:AsJ w wr u A) (H:w'.ownsRow w.heap.size 38 1 d A'.length (A'.map (Value.int .u32))) (g:wr.grownBy w' u.ownBlock):AsJ w w' d A':=
 ⟨H,Below.grown h.more g h.more.size (λk G=>jP h.row G)⟩
def Gt (l:List Itm) (v:Value) (w:World) (aG:SlP 17 Je w v l) (bm:l.length<=1000) (az: ∀x∈l,Hg x):
  Calls prog 189 #[v] w λe w'=> ∃vx,e= .returned vx/\(SlI .u32 w' vx (xR l)/\ ∀q,vx.ownBlock=ϊ q->w.heap.size<=q)/\qh w w':=by
 obtain⟨aF,hi,aC,aD,aE⟩:=info_parts (P:=prog) (e:=38) (z:= ω 0) (size:=1) (bytes:=4) ξ;obtain⟨bo,cap,rfl,bn,ax,aT⟩:=OC aG;have aI:=κ ax;have ao:=κ az;have aO:Hid (AsJ w w (δ ϋ 0 0) []):=κ ⟨World.ownsRow_nil _ _ _ _,qh.refl _⟩;clear aG ax aT az
 go_enter func189,ntmps189
 go_wp2
 go_loopw [3,10] (λu I wr=> ∃j:Nat,j<=l.length/\I= ι j/\AsJ w wr u (xR (l.take j))) (λ_ I _=>l.length-(intOf I).toNat)
 case atStart=>exact⟨0,τ,rfl,aO.o⟩
 case round=>
  obtain⟨j,bk,rfl,O⟩:=hrel;have d:=κ O;clear O;by_cases hlt:j<l.length
  ·obtain⟨b,aW,aj,ae,al,af,am,ag,an,ah,rfl,av,aB,aA⟩:=aI.o j hlt;have aL:=κ (VM aB d.o.more av);have ay:l.getD j gD∈l:=by rw[ϑ,ϖ hlt];exact Ϣ hlt
   have aK:=κ (ao.o _ ay);have aN:=κ aA.ms.asks;have bl:(j:Int)<(l.length:Int):=by omega
   have bh:b<wr.heap.size:=ϗ av d.o.more.size;have ab:Hid (xR (l.take (j+1))=xR (l.take j)++Qi (l.getD j gD)):=κ (by rw[kX l j gD hlt,Gb,Ga])
   have aa:Hid ((xR (l.take j)).length<=100000000):=κ (by
    have:=gV (l:=l.take j) λx aV=>ao.o x (M4 aV)
    rw[ϛ] at this
    omega)
   clear aB aA ay;generalize xR (l.take j)=acc at *;generalize l.getD j gD=x at *
   go_upto_region 5 with (first | (refine wpList_load_mid rfl 293 (.tmp 12) rfl b (aW+j* 17) rfl (Γo x aj ae al af am ag an ah) _ aL.o underlying293 rfl ξ ?_) | (refine xd rfl 293 (.tmp 5) (.tmp 13) rfl wr _ (Γo x aj ae al af am ag an ah) rfl rfl rfl ξ rfl rfl ?_))
   obtain⟨ad,ai⟩:=ν (wr.alloc (.cells (Γo x aj ae al af am ag an ah) 293));have ac:Hid (qh wr ad):=κ (by rw[<-ai];exact qh.alloc _ _);have H:Hid (ad.heap[wr.heap.size]? =ϊ (.cells (Γo x aj ae al af am ag an ah) 293 (0,0))):=κ (by rw[<-ai];exact qp _ _);rw[ai];clear ai;have aS:wr.heap.size<ad.heap.size:=qq H.o;have t0:=β0 H.o;have t9:=β9 H.o;have aX:=β11 H.o;have aY:=β12 H.o;have aZ:=β13 H.o;by_cases hk:x.kind=2
   ·have aR:(x.kind != 2)=ύ:=by simp[hk]
    by_cases h1:x.msg.kind=1
    ·have aP:(x.msg.kind==1)=ό:=by simp[h1]
     have G:Hid (Qi x=[x.msg.med]):=κ (by unfold Qi;rw[ϒ hk,ϒ h1]);clear hk h1;have N:=κ (d.o.on ac.o)
     go_wp2_with (at_builtin;refine qR _ rfl (.tmp 22) (.tmp 26) 61 rfl w.heap.size 38 aF (ω 0) 4 underlying61 hi aC aD aE rfl _ .u32 acc rfl (N.o.on Z0).row _ [x.msg.med] rfl (SlI.lit .u32 ad [x.msg.med] 38 _ 1 _ rfl rfl rfl η) (by have:=aa.o;simp;omega) ζ (by have:=N.o.more.size;simp;omega) ?_;intro v9 w9 Y U aq;have ap:=κ ((N.o.on Z0).put Y U);clear Y U aq)
     go_roundw
     case measure=>simp[intOf];omega
     case rel=>exact⟨j+1,τ,by go_num,by rw[ab.o,G.o];exact ap.o⟩
    ·have aP:(x.msg.kind==1)=ύ:=by simp[h1]
     by_cases h2:x.msg.kind=2
     ·have aQ:(x.msg.kind==2)=ό:=by simp[h2]
      have G:Hid (Qi x=x.msg.asks.map Prod.fst):=κ (by unfold Qi;rw[ϒ hk,ώ h1,ϒ h2]);clear hk h1 h2;have N:=κ (d.o.on ac.o);go_wp2;have bc:=κ d.o.more;obtain⟨aH,rfl⟩: ∃aH:World,aH=wr:=⟨_,rfl⟩;have ar:=κ aK.o.asks;generalize x.msg.asks=ak at *;have bf:ak.length<=100000:=ar.o;clear t0 t9 aX aY aZ H aS
      go_loopw [3,34] (λu I wr=> ∃i:Nat,i<=ak.length/\I= ι i/\AsJ w wr u (acc++(ak.take i).map Prod.fst)) (λ_ I _=>ak.length-(intOf I).toNat)
      case atStart=>exact⟨0,τ,rfl,by simpa using N.o⟩
      case round=>
       obtain⟨i,bi,rfl,O⟩:=hrel;have J:=κ O;clear O;by_cases hlt3:i<ak.length
       ·obtain⟨bd,bp,rfl,bg,aw,ba,bb⟩:=Ax aN.o i hlt3;obtain⟨be,c1⟩:=aw _ J.o.more;have bj:(i:Int)<(ak.length:Int):=by omega
        have aM:Hid (acc++(ak.take (i+1)).map Prod.fst=(acc++(ak.take i).map Prod.fst)++[(ak.getD i (0,0)).1]):=κ (by rw[kX ak i (0,0) hlt3,Ξ,Ϫ];rfl);have aJ:Hid ((acc++(ak.take i).map Prod.fst).length<=100100000):=κ (by have:=aa.o;have:=ar.o;rw[Ϗ,C3,ϛ];omega);clear aw ba bb;generalize acc++(ak.take i).map Prod.fst=acc3 at *;generalize (ak.getD i (0,0)).1=y1 at *;generalize (ak.getD i (0,0)).2=y2 at *;have au:=κ (J.o.on (qh.alloc wr (.cells #[ω y1,υ y2] 421)))
        go_wp2_with (at_builtin;refine qR _ rfl (.tmp 38) (.tmp 41) 61 rfl w.heap.size 38 aF (ω 0) 4 underlying61 hi aC aD aE rfl _ .u32 acc3 rfl (au.o.on Z0).row _ [y1] rfl (SlI.lit .u32 (wr.alloc (.cells #[ω y1,υ y2] 421)) [y1] 38 _ 1 _ rfl rfl η η) (by have:=aJ.o;rw[B4];omega) ζ (by have:=J.o.more.size;simp;omega) ?_;intro v9 w9 Y U aq;have ap:=κ ((au.o.on Z0).put Y U);clear Y U aq)
        go_roundw
        case measure=>simp[intOf];omega
        case rel=>exact⟨i+1,τ,by go_num,by rw[aM.o];exact ap.o⟩
       ·obtain rfl:i=ak.length:=by omega
        rw[ϭ] at J;go_wp2;go_roundw
        case measure=>simp[intOf];omega
        case rel=>exact⟨j+1,τ,by go_num,by rw[ab.o,G.o];exact J.o⟩
     ·have aQ:(x.msg.kind==2)=ύ:=by simp[h2]
      have G:Hid (Qi x=[]):=κ (by unfold Qi;rw[ϒ hk,ώ h1,ώ h2]);clear hk h1 h2;go_wp2;go_roundw
      case measure=>simp[intOf];omega
      case rel=>exact⟨j+1,τ,by go_num,by rw[ab.o,G.o,Ω];exact d.o.on ac.o⟩
   ·have aR:(x.kind != 2)=ό:=by simp[hk]
    have G:Hid (Qi x=[]):=κ (by unfold Qi;rw[ώ hk]);clear hk;go_wp2;go_roundw
    case measure=>simp[intOf];omega
    case rel=>exact⟨j+1,τ,by go_num,by rw[ab.o,G.o,Ω];exact d.o.on ac.o⟩
  ·obtain rfl:j=l.length:=by omega
   rw[ϭ] at d;have aa:Hid ((xR l).length<=100000000):=κ (by have:=gV (l:=l) ao.o;omega);go_wp2;go_ret;exact⟨_,rfl,⟨SlI.of_owns d.o.row (by have:=aa.o;omega),λq aU=>jP d.o.row aU⟩,d.o.more⟩
end
structure Ds where
 lo:Bool
 st:Bool
 pt:Int
 pic:Int
 wd:Bool
 bs:Int
 tr:Int
 sy:Bool
 ky:Int
def ds0:Ds:=⟨ύ,ύ,0,0,ύ,0,0,ύ,0⟩
def b1 (b:Bool) (n:Int):Int:=if b then n else 0
def nB (s:RdS):Int:=num (tkB s.1 1)
def bit (n k:Int):Bool:=decide (n/k%2=1)
def zx (s:RdS):Int×Int×RdS:=if bit (nB s) 128 then (nB s,nB (tkS s 1),tkS (tkS s 1) 1) else (nB s,0,tkS s 1)
def Qg (t:Int) (s:RdS):(Int×Bool)×RdS:=if bit t 128 then (if nB s<128 then ((nB s,ύ),tkS s 1) else (((nB s-128)* 256+nB (tkS s 1),ό),tkS (tkS s 1) 1)) else ((-1,ύ),s)
def Xl (t:Int) (s:RdS):Int×RdS:=if bit t 64 then (nB s,tkS s 1) else (-1,s)
def JF (t:Int) (s:RdS):Int×RdS:=if bit t 32||bit t 16 then (nB s,tkS s 1) else (0,s)
def mkD (f t:Int) (p:Int×Bool) (b q:Int):Ds:=⟨bit f 32,bit f 16,f%8,p.1,p.2,b,if bit t 32 then q/64 else -1,bit t 32&&bit q 32,if bit t 16 then q%32 else -1⟩
def Ya (f t:Int) (s:RdS):Ds×RdS:=
 (mkD f t (Qg t s).1 (Xl t (Qg t s).2).1 (JF t (Xl t (Qg t s).2).2).1,(JF t (Xl t (Qg t s).2).2).2)
def Bi (n:Int) (x:Ds×RdS):Ds×Int×Int:=if x.2.2=3 then (ds0,0,3) else (x.1,n-x.2.1.length,0)
def jf (b:List Int):Ds×Int×Int:=Bi b.length (Ya (zx (b,0)).1 (zx (b,0)).2.1 (zx (b,0)).2.2)
def xO (b:List Int):Bool:=
 decide ((jf b).2.2=0)&&(jf b).1.st&&decide ((jf b).1.pt=0)&&decide ((jf b).2.1<b.length)&&decide (b.getD (jf b).2.1.toNat 0%2=0)
def Dq (f t:Int) (s:RdS):(Ya f t s).2.1.length<=s.1.length:=by
 have d: ∀s:RdS,(tkS s 1).1.length<=s.1.length:=λs=>by unfold tkS tkL;rw[Ϡ];omega
 unfold Ya;have H:(Qg t s).2.1.length<=s.1.length:=by
  unfold Qg;split
  ·split
   ·exact d _
   ·exact ϙ (d _) (d _)
  ·exact ϕ _
 have G: ∀s,(Xl t s).2.1.length<=s.1.length:=λs=>by
  unfold Xl;split
  ·exact d _
  ·exact ϕ _
 have I: ∀s,(JF t s).2.1.length<=s.1.length:=λs=>by
  unfold JF;split
  ·exact d _
  ·exact ϕ _
 exact ϙ (I _) (ϙ (G _) H)
def orB: ∀m:Fin 256,((m.val:Int)/128%2=0->bits .or .u8 (m.val:Int) 128=(m.val:Int)+128)/\((m.val:Int)/64%2=0->bits .or .u8 (m.val:Int) 64=(m.val:Int)+64)/\((m.val:Int)/32%2=0->bits .or .u8 (m.val:Int) 32=(m.val:Int)+32)/\((m.val:Int)/16%2=0->bits .or .u8 (m.val:Int) 16=(m.val:Int)+16):=Ϛ ξ
def Sg (h:0<=x/\x<=255):(x/128%2=0->bits .or .u8 x 128=x+128)/\(x/64%2=0->bits .or .u8 x 64=x+64)/\(x/32%2=0->bits .or .u8 x 32=x+32)/\(x/16%2=0->bits .or .u8 x 16=x+16):=by
 obtain⟨m,rfl⟩:=Θ h.1;exact orB ⟨m,τ⟩
def RS: ∀m:Fin 256,(bits .and .u8 (m.val:Int) 128=if bit (m.val:Int) 128 then 128 else 0)/\(bits .and .u8 (m.val:Int) 64=if bit (m.val:Int) 64 then 64 else 0)/\(bits .and .u8 (m.val:Int) 32=if bit (m.val:Int) 32 then 32 else 0)/\(bits .and .u8 (m.val:Int) 16=if bit (m.val:Int) 16 then 16 else 0)/\bits .and .u8 (m.val:Int) 7=(m.val:Int)%8/\((bits .and .u8 (m.val:Int) 48 != 0)=(bit (m.val:Int) 32||bit (m.val:Int) 16)):=Ϛ ξ
def Ye (h:0<=x/\x<=255):(bits .and .u8 x 128=if bit x 128 then 128 else 0)/\(bits .and .u8 x 64=if bit x 64 then 64 else 0)/\(bits .and .u8 x 32=if bit x 32 then 32 else 0)/\(bits .and .u8 x 16=if bit x 16 then 16 else 0)/\bits .and .u8 x 7=x%8/\((bits .and .u8 x 48 != 0)=(bit x 32||bit x 16)):=by
 obtain⟨m,rfl⟩:=Θ h.1;exact RS ⟨m,τ⟩
def OP: ∀m:Fin 256,((bits .and .u8 (m.val:Int) 128 != 0)=bit (m.val:Int) 128)/\((bits .and .u8 (m.val:Int) 64 != 0)=bit (m.val:Int) 64)/\((bits .and .u8 (m.val:Int) 32 != 0)=bit (m.val:Int) 32)/\((bits .and .u8 (m.val:Int) 16 != 0)=bit (m.val:Int) 16):=Ϛ ξ
def XW (h:0<=x/\x<=255):((bits .and .u8 x 128 != 0)=bit x 128)/\((bits .and .u8 x 64 != 0)=bit x 64)/\((bits .and .u8 x 32 != 0)=bit x 32)/\((bits .and .u8 x 16 != 0)=bit x 16):=by
 obtain⟨m,rfl⟩:=Θ h.1;exact OP ⟨m,τ⟩
structure PrS (w0 w:World) (R hi Br B5 B7 B8:Nat) (s:RdS) (t:Int) (cs:Array Value):Prop where
 rd:qw w R s.1 s.2 (λg=>g<hi)
 more:qh w0 w
 br:w.heap[Br]? =ϊ (.cells #[.bool ύ,.bool ύ,.int .u8 0,.int .i64 0,.bool ύ,.int .i64 0,.int .i64 0,.bool ύ,.int .i64 0] 366 (0,0))
 b5:w.heap[B5]? =ϊ (.cells #[.pointer (ϊ ⟨R,0,ϋ⟩)] 156 (0,0))
 b7:w.heap[B7]? =ϊ (.cells #[.int .u8 t] 5 (0,0))
 b8:w.heap[B8]? =ϊ (.cells cs 366 (0,0))
 n0:w0.heap.size<=Br
 nR:Br<R
 n1:R<hi
 n5:hi<=B5
 n7:B5<B7
 n8:B7<B8
def PrS.step {I:World} {d H:Nat} (h:PrS I w R hi Br d G H s t cs) (r:qw w' R s'.1 s'.2 (λg=>g<hi)) (a:qk (λb=>b=R) w w'):PrS I w' R hi Br d G H s' t cs:=by
 have:=h.n0;have:=h.nR;have:=h.n1;have:=h.n5;have:=h.n7;have:=h.n8;exact⟨r,qk.to_more h.more a (λk J=>by omega),a.blk h.br τ,a.blk h.b5 τ,a.blk h.b7 τ,a.blk h.b8 τ,h.n0,h.nR,h.n1,h.n5,h.n7,h.n8⟩
def PrS.on {I:World} {d H:Nat} (h:PrS I w R hi Br d G H s t cs) (m:qh w w'):PrS I w' R hi Br d G H s t cs:=
 ⟨h.rd.more m,h.more.trans m,qj m h.br,qj m h.b5,qj m h.b7,qj m h.b8,h.n0,h.nR,h.n1,h.n5,h.n7,h.n8⟩
def PrS.put8 {I:World} {H d:Nat} (h:PrS I w R hi Br G H d s t cs) (i:Nat) (v:Value):PrS I (w.setCell ⟨d,i,ϋ⟩ v) R hi Br G H d s t (cs.setIfInBounds i v):=by
 have:=h.n0;have:=h.nR;have:=h.n1;have:=h.n5;have:=h.n7;have:=h.n8;have a:qk (λb=>b=d) w (w.setCell ⟨d,i,ϋ⟩ v):=(qk.refl (λb=>b=d) w).set (p:=⟨d,i,ϋ⟩) rfl _;exact⟨h.rd.off a τ (λg J e=>by omega),h.more.st (p:=⟨d,i,ϋ⟩) (by show _<=d;omega) _,a.blk h.br τ,a.blk h.b5 τ,a.blk h.b7 τ,qt h.b8 i v,h.n0,h.nR,h.n1,h.n5,h.n7,h.n8⟩
def Yb (h:Byt s.1):0<=nB s/\nB s<=255:=by
 have:=zY (tkB s.1 1) 1 (jX h 1) (zE s.1 1 ζ) ζ;unfold nB;omega
def dC (f pic:Int) (wd:Bool) (bs tr:Int) (sy:Bool) (ky:Int):Array Value:= #[.bool (bit f 32),.bool (bit f 16),.int .u8 (f%8),.int .i64 pic,.bool wd,.int .i64 bs,.int .i64 tr,.bool sy,.int .i64 ky]
def PrQ (w0 w':World) (R hi Br B5 B7 B8 B10:Nat) (s:RdS) (t:Int) (cs:Array Value) (q:Int):Prop:=PrS w0 w' R hi Br B5 B7 B8 s t cs/\w'.heap[B10]? =ϊ (.cells #[.int .u64 q] 231 (0,0))
def F7 (s:RdS):Int:=if nB s<128 then nB s else (nB s-128)* 256+nB (tkS s 1)
def F8 (s:RdS):RdS:=if nB s<128 then tkS s 1 else tkS (tkS s 1) 1
def F6 (s:RdS):Bool:=decide (¬nB s<128)
def Lj {ae:World} {J O N:Nat} {f:Int} (h:PrS ae w R hi Br J O N s t (dC f 0 ύ 0 0 ύ 0)):
  Calls prog 251 #[γ J,γ N] w λe w'=>e= .returned (ι (F7 s))/\PrS ae w' R hi Br J O N (F8 s) t (dC f 0 (F6 s) 0 0 ύ 0):=by
 unfold F7 F8 F6;have al:=Yb h.rd.byt;have ac:Byt (tkS s 1).1:=h.rd.byt.drop _;have am:=Yb ac;have c5:=β0 h.b5;have H:=κ h;have aa:num (tkB s.1 1)=nB s:=rfl;have ab:num (tkB (tkS s 1).1 1)=nB (tkS s 1):=rfl;have U:=κ aa;have af:=κ ab;clear h aa ab ac;by_cases hn:nB s<128
 ·rw[ϒ hn,ϒ hn,Ϯ τ];generalize ah:nB s=q at *;clear ah
  go_enter func251,ntmps251
  go_wp2_with (go_at_call 52;((with_reducible refine(xb H.o.rd).mono ?_);rintro e w1 ⟨rfl,G,d⟩;rw[U.o];have I:=κ (H.o.step (s':=tkS s 1) G d);clear G d))
  go_ret;exact⟨rfl,I.o⟩
 ·rw[ώ hn,ώ hn,Ϩ τ];generalize nB s=q at *;generalize ai:nB (tkS s 1)=q2 at *;clear ai
  go_enter func251,ntmps251
  go_wp2_with first | (go_at_call 52;((with_reducible refine(xb H.o.rd).mono ?_);rintro e w1 ⟨rfl,G,d⟩;rw[U.o];have I:=κ ((H.o.step (s':=tkS s 1) G d).put8 4 (μ ό));have aj:=qi (H.o.step (s':=tkS s 1) G d).b8 4 (v:= μ ύ) rfl;have an:=ql (H.o.step (s':=tkS s 1) G d).b8 4;have ak:=β0 I.o.b5;clear G d)) | (go_at_call 52;((with_reducible refine(xb I.o.rd).mono ?_);rintro e w2 ⟨rfl,ad,Y⟩;rw[af.o];have ag:=κ (I.o.step (s':=tkS (tkS s 1) 1) ad Y);clear ad Y))
  go_ret;exact⟨rfl,ag.o⟩
def Ly {U:World} {d H:Nat} (h:PrS U w R hi Br d G H s t cs):
  Calls prog 252 #[γ d] w λe w'=>e= .returned (ι (nB s))/\PrS U w' R hi Br d G H (tkS s 1) t cs:=by
 have ab:=Yb h.rd.byt;have c5:=β0 h.b5;have I:=κ h;have N:num (tkB s.1 1)=nB s:=rfl;have Y:=κ N;clear h N;generalize nB s=q at *
 go_enter func252,ntmps252
 go_wp2_with (go_at_call 52;((with_reducible refine(xb I.o.rd).mono ?_);rintro e w1 ⟨rfl,O,J⟩;rw[Y.o];have aa:=κ (I.o.step (s':=tkS s 1) O J);clear O J))
 go_ret;exact⟨rfl,aa.o⟩
def LK {q:Int} (h:0<=q/\q<=255):fld q 5 1=q/32%2/\fld q 6 2=q/64/\fld q 0 5=q%32:=by
 have t0:two 0=1:=by decide
 have t1:two 1=2:=by decide
 have t2:two 2=4:=by decide
 have t5:two 5=32:=by decide
 have d:two 6=64:=by decide
 unfold fld;refine⟨?_, ?_, ?_⟩
 ·rw[ϒ (show May 5 1 by unfold May;decide),t5,t1]
 ·rw[ϒ (show May 6 2 by unfold May;decide),d,t2];omega
 ·rw[ϒ (show May 0 5 by unfold May;decide),t0,t5];omega
def FN {ah:World} {N O d:Nat} {q:Int} {f ag Y:Int} {ai:Bool} (h:PrQ ah w R hi Br N O d G s t (dC f ag ai Y 0 ύ 0) q) (ad:0<=q/\q<=255) (aw:d<G):
  Calls prog 253 #[γ G,γ d] w λe w'=>e= .returned (ι (q/64))/\PrQ ah w' R hi Br N O d G s t (dC f ag ai Y 0 (bit q 32) 0) q:=by
 obtain⟨h,J⟩:=h;obtain⟨aa,ab,aq⟩:=LK ad;have ae:U64 q:=by unfold U64;omega
 have ac:(q/32%2==1)=bit q 32:=by unfold bit;rw[F2];simp
 have aj:=κ aa;have ak:=κ ab;have ap:=κ ac;have ar:=β0 J;have I:=κ h;have an:=κ J;obtain⟨ay,az⟩:=ad;have aA:q/64<=3:=by omega
 have aB:0<=q/64:=by omega
 clear h J aa ab aq ac;generalize q/64=q6 at *
 go_enter func253,ntmps253
 go_wp2_with first | (go_at_call 254;((with_reducible refine(JC q 5 1 ae (by unfold May;decide) _).mono ?_);rintro e w1 ⟨rfl,H,rfl⟩;rw[aj.o];have am:=κ ((I.o.on (qh.drewN _ H)).put8 7 (μ (bit q 32)));have U:=κ (qs (qr an.o H) ⟨d,7,ϋ⟩ (μ (bit q 32)) (by show G≠d;omega));have au:=qi (I.o.on (qh.drewN w H)).b8 7 (v:= μ ύ) rfl;have aC:=ql (I.o.on (qh.drewN w H)).b8 7;have ax:=ap.o;have av:=β0 U.o)) | (go_at_call 254;((with_reducible refine(JC q 6 2 ae (by unfold May;decide) _).mono ?_);rintro e w2 ⟨rfl,af,rfl⟩;rw[ak.o];have ao:=κ (am.o.on (qh.drewN _ af));have al:=κ (qr U.o af)))
 go_ret;exact⟨rfl,ao.o,al.o⟩
def Lu {U:World} {H I J d:Nat} {q:Int} (h:PrQ U w R hi Br H I J d s t cs q) (ag:0<=q/\q<=255):
  Calls prog 255 #[γ d] w λe w'=>e= .returned (ι (q%32))/\PrQ U w' R hi Br H I J d s t cs q:=by
 obtain⟨h,G⟩:=h;obtain⟨ae,af,N⟩:=LK ag;have ah:U64 q:=by unfold U64;omega
 have Y:=κ N;have ai:=β0 G;have ab:=κ h;have ad:=κ G;have aj:q%32<=31:=by omega
 have ak:0<=q%32:=by omega
 clear h G ae af N;generalize q%32=q5 at *
 go_enter func255,ntmps255
 go_wp2_with (go_at_call 254;((with_reducible refine(JC q 0 5 ah (by unfold May;decide) _).mono ?_);rintro e w1 ⟨rfl,O,rfl⟩;rw[Y.o];have ac:=κ (ab.o.on (qh.drewN _ O));have aa:=κ (qr ad.o O)))
 go_ret;exact⟨rfl,ac.o,aa.o⟩
def NC {O:World} {d H:Nat} {f:Int} (h:PrS O w R hi Br d G H s t (dC f 0 ύ 0 0 ύ 0)) (Y:0<=t/\t<=255):
  Calls prog 250 #[υ 128,.func (.func 251) #[] #[γ d,γ H],γ G] w λe w'=>e= .returned (ι (Qg t s).1.1)/\PrS O w' R hi Br d G H (Qg t s).2 t (dC f 0 (Qg t s).1.2 0 0 ύ 0):=by
 have aa:=β0 h.b7;have I:=κ h;have N:=(Ye Y).1;clear h;cases hb:bit t 128 with
 | false=>
  rw[hb,ώ η] at N;have e:Qg t s=((-1,ύ),s):=by unfold Qg;rw[hb,ώ η]
  rw[e];clear e hb
  go_enter func250,ntmps250
  go_wp2;go_ret;exact⟨rfl,I.o⟩
 | true=>
  rw[hb,ϒ rfl] at N;have e:Qg t s=((F7 s,F6 s),F8 s):=by unfold Qg F7 F8 F6;rw[hb,ϒ rfl];by_cases hn:nB s<128<;>simp[hn]
  have E:=κ e;clear e hb
  go_enter func250,ntmps250
  go_wp2_with (go_at_call 251;((with_reducible refine(Lj I.o).mono ?_);rintro e w1 ⟨rfl,J⟩;have U:=κ J;clear J))
  go_ret;rw[E.o];exact⟨rfl,U.o⟩
def ND {O:World} {d H:Nat} (h:PrS O w R hi Br d G H s t cs) (Y:0<=t/\t<=255):
  Calls prog 250 #[υ 64,.func (.func 252) #[] #[γ d],γ G] w λe w'=>e= .returned (ι (Xl t s).1)/\PrS O w' R hi Br d G H (Xl t s).2 t cs:=by
 have aa:=β0 h.b7;have I:=κ h;have N:=(Ye Y).2.1;clear h;cases hb:bit t 64 with
 | false=>
  rw[hb,ώ η] at N;have e:Xl t s=(-1,s):=by unfold Xl;rw[hb,ώ η]
  rw[e];clear e hb
  go_enter func250,ntmps250
  go_wp2;go_ret;exact⟨rfl,I.o⟩
 | true=>
  rw[hb,ϒ rfl] at N;have e:Xl t s=(nB s,tkS s 1):=by unfold Xl;rw[hb,ϒ rfl]
  have E:=κ e;clear e hb
  go_enter func250,ntmps250
  go_wp2_with (go_at_call 252;((with_reducible refine(Ly I.o).mono ?_);rintro e w1 ⟨rfl,J⟩;have U:=κ J;clear J))
  go_ret;rw[E.o];exact⟨rfl,U.o⟩
def PB {ab:World} {I H d:Nat} {q:Int} {f aa N:Int} {ac:Bool} (h:PrQ ab w R hi Br I H G d s t (dC f aa ac N 0 ύ 0) q) (ag:0<=t/\t<=255) (Y:0<=q/\q<=255) (af:G<d):
  Calls prog 250 #[υ 32,.func (.func 253) #[] #[γ d,γ G],γ H] w λe w'=>e= .returned (ι (if bit t 32 then q/64 else -1))/\PrQ ab w' R hi Br I H G d s t (dC f aa ac N 0 (bit t 32&&bit q 32) 0) q:=by
 have ah:=β0 h.1.b7;have J:=κ h;have U:=(Ye ag).2.2.1;have ae:=κ Y;clear h Y;cases hb:bit t 32 with
 | false=>
  rw[hb,ώ η] at U;rw[ώ η,I1];clear hb
  go_enter func250,ntmps250
  go_wp2;go_ret;exact⟨rfl,J.o⟩
 | true=>
  rw[hb,ϒ rfl] at U;rw[ϒ rfl,E8];clear hb
  go_enter func250,ntmps250
  go_wp2_with (go_at_call 253;((with_reducible refine(FN J.o ae.o af).mono ?_);rintro e w1 ⟨rfl,O⟩;have ad:=κ O;clear O))
  go_ret;exact⟨rfl,ad.o⟩
def Cs {Y:World} {H I d:Nat} {q:Int} (h:PrQ Y w R hi Br H G I d s t cs q) (ac:0<=t/\t<=255) (U:0<=q/\q<=255):
  Calls prog 250 #[υ 16,.func (.func 255) #[] #[γ d],γ G] w λe w'=>e= .returned (ι (if bit t 16 then q%32 else -1))/\PrQ Y w' R hi Br H G I d s t cs q:=by
 have ad:=β0 h.1.b7;have J:=κ h;have O:=(Ye ac).2.2.2.1;have ab:=κ U;clear h U;cases hb:bit t 16 with
 | false=>
  rw[hb,ώ η] at O;rw[ώ η];clear hb
  go_enter func250,ntmps250
  go_wp2;go_ret;exact⟨rfl,J.o⟩
 | true=>
  rw[hb,ϒ rfl] at O;rw[ϒ rfl];clear hb
  go_enter func250,ntmps250
  go_wp2_with (go_at_call 255;((with_reducible refine(Lu J.o ab.o).mono ?_);rintro e w1 ⟨rfl,N⟩;have aa:=κ N;clear N))
  go_ret;exact⟨rfl,aa.o⟩
def PrS.begin {w2:World} {b:List Int} (J:Z= #[μ ύ,ύ,υ 0,ι 0,ύ,ι 0,ι 0,ύ,ι 0]) (H:(w.alloc (.cells Z 366)).heap.size<=R)
  (r:qw w2 R b 0 (λg=>(w.alloc (.cells Z 366)).heap.size<=g/\g<w2.heap.size)) (m:qh (w.alloc (.cells Z 366)) w2):
  qw w2 R b 0 (λg=>g<w2.heap.size)/\qh w w2/\w2.heap[w.heap.size]? =ϊ (.cells Z 366 (0,0))/\w.heap.size<R/\R<w2.heap.size:=by
 have G:R<w2.heap.size:=by obtain⟨v,d,_⟩:=r.blk;exact qq d
 have I:(w.alloc (.cells Z 366)).heap.size=w.heap.size+1:=by simp
 exact⟨r.mono λg h=>h.2,Z0.trans m,qj m (qp w _),τ,G⟩
structure PrP (w0 w:World) (R hi Br B5 B7:Nat) (s:RdS) (t:Int):Prop where
 rd:qw w R s.1 s.2 (λg=>g<hi)
 more:qh w0 w
 br:w.heap[Br]? =ϊ (.cells #[.bool ύ,.bool ύ,.int .u8 0,.int .i64 0,.bool ύ,.int .i64 0,.int .i64 0,.bool ύ,.int .i64 0] 366 (0,0))
 b5:w.heap[B5]? =ϊ (.cells #[.pointer (ϊ ⟨R,0,ϋ⟩)] 156 (0,0))
 b7:w.heap[B7]? =ϊ (.cells #[.int .u8 t] 5 (0,0))
 n0:w0.heap.size<=Br
 nR:Br<R
 n1:R<hi
 n5:hi<=B5
 n7:B5<B7
def PrP.step {d:Nat} (h:PrP H w R hi Br d G s t) (r:qw w' R s'.1 s'.2 (λg=>g<hi)) (a:qk (λb=>b=R) w w'):PrP H w' R hi Br d G s' t:=by
 have:=h.n0;have:=h.nR;have:=h.n1;have:=h.n5;have:=h.n7;exact⟨r,qk.to_more h.more a (λk I=>by omega),a.blk h.br τ,a.blk h.b5 τ,a.blk h.b7 τ,h.n0,h.nR,h.n1,h.n5,h.n7⟩
def PrP.put7 {d:Nat} (h:PrP H w R hi Br G d s t) (t':Int):PrP H (w.setCell ⟨d,0,ϋ⟩ (υ t')) R hi Br G d s t':=by
 have:=h.n0;have:=h.nR;have:=h.n1;have:=h.n5;have:=h.n7;have a:qk (λb=>b=d) w (w.setCell ⟨d,0,ϋ⟩ (υ t')):=(qk.refl (λb=>b=d) w).set (p:=⟨d,0,ϋ⟩) rfl _;exact⟨h.rd.off a τ (λg I e=>by omega),h.more.st (p:=⟨d,0,ϋ⟩) (by show _<=d;omega) _,a.blk h.br τ,a.blk h.b5 τ,qF (qt h.b7 0 _) rfl,h.n0,h.nR,h.n1,h.n5,h.n7⟩
def PrP.box {d:Nat} (h:PrP H w R hi Br d G s t) (cs:Array Value):PrS H (w.alloc (.cells cs 366)) R hi Br d G w.heap.size s t cs:=
 ⟨h.rd.more Z0,h.more.al _,qv h.br _,qv h.b5 _,qv h.b7 _,qp w _,h.n0,h.nR,h.n1,h.n5,h.n7,qq h.b7⟩
def PrP.make {w2 d:World} {b:List Int} (O:qw w2 R b 0 (λg=>g<w2.heap.size)) (m:qh w w2) (H:w2.heap[Br]? =ϊ (.cells #[μ ύ,ύ,υ 0,ι 0,ύ,ι 0,ι 0,ύ,ι 0] 366 (0,0))) (I:w.heap.size<=Br) (J:Br<R) (n2:R<w2.heap.size)
  (r:qw d R s'.1 s'.2 (λg=>g<w2.heap.size)) (a:qk (λb=>b=R) (w2.alloc (.cells #[γ R] 156)) d):
  PrP w (d.alloc (.cells #[υ 0] 5)) R w2.heap.size Br w2.heap.size d.heap.size s' 0:=by
 have G:d.heap[w2.heap.size]? =_:=a.blk (qp w2 _) τ;refine⟨r.more Z0,(qk.to_more (m.al _) a (λk N=> ?_)).al _,qv (a.blk (qv H _) τ) _,qv G _,qp _ _,I,J,n2,ϕ _,qq G⟩;omega
def PrQ.mk {J:World} {H I d:Nat} {q:Int} (h:PrS J w R hi Br G H I s t cs) (k:w.heap[d]? =ϊ (.cells #[ψ q] 231 (0,0))):PrQ J w R hi Br G H I d s t cs q:=⟨h,k⟩
def qh.st9 {G:World} (m:qh G w) (B:Nat) (d:G.heap.size<=B) (v0 H I v3 v4 v5 J N O:Value):
  qh G (((((((((w.setCell ⟨B,0,ϋ⟩ v0).setCell ⟨B,1,ϋ⟩ H).setCell ⟨B,2,ϋ⟩ I).setCell ⟨B,3,ϋ⟩ v3).setCell ⟨B,4,ϋ⟩ v4).setCell ⟨B,5,ϋ⟩ v5).setCell ⟨B,6,ϋ⟩ J).setCell ⟨B,7,ϋ⟩ N).setCell ⟨B,8,ϋ⟩ O):=
 ((((((((m.st (p:=⟨B,0,ϋ⟩) d v0).st (p:=⟨B,1,ϋ⟩) d H).st (p:=⟨B,2,ϋ⟩) d I).st (p:=⟨B,3,ϋ⟩) d v3).st (p:=⟨B,4,ϋ⟩) d v4).st (p:=⟨B,5,ϋ⟩) d v5).st (p:=⟨B,6,ϋ⟩) d J).st (p:=⟨B,7,ϋ⟩) d N).st (p:=⟨B,8,ϋ⟩) d O
def PrS.put10 {J:World} {H I d:Nat} (h:PrS J w R hi Br H I G s t cs) (N:G<d):PrS J (w.setCell ⟨d,0,ϋ⟩ v) R hi Br H I G s t cs:=by
 have:=h.n0;have:=h.nR;have:=h.n1;have:=h.n5;have:=h.n7;have:=h.n8;have a:qk (λb=>b=d) w (w.setCell ⟨d,0,ϋ⟩ v):=(qk.refl (λb=>b=d) w).set (p:=⟨d,0,ϋ⟩) rfl _;exact⟨h.rd.off a τ (λg O e=>by omega),h.more.st (p:=⟨d,0,ϋ⟩) (by show _<=d;omega) _,a.blk h.br τ,a.blk h.b5 τ,a.blk h.b7 τ,a.blk h.b8 τ,h.n0,h.nR,h.n1,h.n5,h.n7,h.n8⟩
def kY (v:Value) (b:List Int) (w:World) (bD:SlI .u8 w v b) (aP:Byt b) (bT:b.length<=1000000):
  Calls prog 195 #[v] w λe w'=>e= .returned (.tuple #[θ #[μ (jf b).1.lo,μ (jf b).1.st,υ (jf b).1.pt,ι (jf b).1.pic,μ (jf b).1.wd,ι (jf b).1.bs,ι (jf b).1.tr,μ (jf b).1.sy,ι (jf b).1.ky],ι (jf b).2.1,ι (jf b).2.2])/\qh w w':=by
 have bg:=κ (bD.keep (qh.alloc w (.cells #[μ ύ,ύ,υ 0,ι 0,ύ,ι 0,ι 0,ύ,ι 0] 366)));have aq:0<=nB (b,0)/\nB (b,0)<=255:=Yb (s:=(b,0)) aP;obtain⟨ct,cn,rfl,aQ⟩:=bD;clear aQ;have bS:=(XW aq).1;have co:=(XW aq).2.2.1;have cp:=(XW aq).2.2.2;have cq:=(Ye aq).2.2.2.2.1;have ah:num (tkB b 1)=nB (b,0):=rfl;have al:=κ ah;clear ah;generalize bq:nB (b,0)=f at *;have an:=κ bq;clear bq
 go_enter func195,ntmps195
 go_upto_if 18 with (first | (go_at_call 51;(go_call kQ _ b _ bg.o aP bT as e w2 ⟨R,rfl,bn,bv,bt⟩;obtain⟨bA,bz,bh,n1,n2⟩:=PrS.begin rfl bn bv bt;have ax:=κ bA;have bI:=κ bz;have aW:=κ bh;clear bv bt bA bz bh bn;have aR:=β0 (qp w2 (.cells #[γ R] 156)))) | (go_at_call 52;(go_call xb (ax.o.more Z0) as e bZ ⟨rfl,bB,a3⟩;rw[al.o];have ab:=κ (PrP.make ax.o bI.o aW.o (ϕ _) n1 n2 (s':=tkS (b,0) 1) bB a3);clear bB a3)))
 generalize w2.heap.size=hi at *;generalize bZ.heap.size=B7 at *;have bW:=β0 ab.o.b5;have aU:=β0 ab.o.b7;have bi:0<=(zx (b,0)).2.1/\(zx (b,0)).2.1<=255:=by
  unfold zx;split
  ·exact Yb (s:=tkS (b,0) 1) (aP.drop _)
  ·exact⟨η,η⟩
 have aa:=κ bi;clear bi
 go_cut [] from 18 (λaS=>PrP w aS R hi w.heap.size hi B7 (zx (b,0)).2.2 (zx (b,0)).2.1)
 case first=>
  cases hbt:bit f 128 with
  | false=>
   have e:zx (b,0)=(f,0,tkS (b,0) 1):=by unfold zx;rw[an.o,hbt,ώ η]
   have H:=κ e;clear e;go_wp2;go_meet;rw[H.o];exact ab.o
  | true=>
   have e:zx (b,0)=(f,nB (tkS (b,0) 1),tkS (tkS (b,0) 1) 1):=by unfold zx;rw[an.o,hbt,ϒ rfl]
   have H:=κ e;clear e
   go_wp2_with (go_at_call 52;(go_call xb ab.o.rd as e w4 ⟨rfl,ar,a4⟩;have bG:=κ ((ab.o.step (s':=tkS (tkS (b,0) 1) 1) ar a4).put7 (nB (tkS (b,0) 1)));have bE:=ql (ab.o.step (s':=tkS (tkS (b,0) 1) 1) ar a4).b7 0;have cx:=qi (ab.o.step (s':=tkS (tkS (b,0) 1) 1) ar a4).b7 0 (v:= υ 0) rfl;clear ar a4))
   go_meet;rw[H.o];exact bG.o
 case rest=>
  have bp:(zx (b,0)).1=f:=by rw[<-an.o];unfold zx;split<;>rfl
  have Y:jf b=Bi b.length (Ya (zx (b,0)).1 (zx (b,0)).2.1 (zx (b,0)).2.2):=rfl;rw[bp] at Y;have aX:=κ hcut;have bc:=κ Y;clear hcut Y bp ab ax aW aR bW aU al an bg;generalize (zx (b,0)).2.1=t at *;generalize (zx (b,0)).2.2=s at *;obtain⟨t0,t1⟩:=aa.o;have ad:=(Ye aa.o).2.2.2.2.2;have aZ:=κ ad;clear ad bS;have be:Hid (PrS w (wc.alloc (.cells #[μ (bit f 32),(bit f 16),υ (f%8),ι 0,ύ,ι 0,ι 0,ύ,ι 0] 366)) R hi w.heap.size hi B7 wc.heap.size s t (dC f 0 ύ 0 0 ύ 0)):=κ (aX.o.box _);generalize bl:Qg t s=P at *;generalize bm:Xl t P.2=Q at *;generalize bj:JF t Q.2=Bo at *;have ba:=κ bl;have bb:=κ bm;have am:=κ bj;clear bl bm bj;obtain⟨⟨pic,wd⟩,s1⟩:=P;obtain⟨bs,s2⟩:=Q;obtain⟨q,s3⟩:=Bo
  have bH:Hid (Byt s2.1->0<=q/\q<=255):=κ (λbU=>by
   have e:=am.o;unfold JF at e;split at e
   ·cases e;exact Yb bU
   ·cases e;exact⟨ζ,ζ⟩)
  go_upto_if 41 with (first | (go_at_call 250;((with_reducible refine(NC be.o aa.o).mono ?_);rintro e w5 ⟨rfl,ai⟩;rw[ba.o] at ai ⊢;have bf:Hid (PrS w (w5.setCell ⟨wc.heap.size,3,ϋ⟩ (ι pic)) R hi w.heap.size hi B7 wc.heap.size s1 t (dC f pic wd 0 0 ύ 0)):=κ (ai.put8 3 (ι pic));have ca:=β3 ai.b8;have z3:=ql ai.b8 3;clear ai)) | (go_at_call 250;((with_reducible refine(ND bf.o aa.o).mono ?_);rintro e w6 ⟨rfl,aj⟩;rw[bb.o] at aj ⊢;have ao:Hid (PrS w (w6.setCell ⟨wc.heap.size,5,ϋ⟩ (ι bs)) R hi w.heap.size hi B7 wc.heap.size s2 t (dC f pic wd bs 0 ύ 0)):=κ (aj.put8 5 (ι bs));have cb:=β5 aj.b8;have z5:=ql aj.b8 5;have G:=κ (ao.o.on (qh.alloc _ (.cells #[ψ 0] 231)));have aU:=β0 G.o.b7;clear aj ca z3)))
  have ac:=κ (qp (w6.setCell ⟨wc.heap.size,5,ϋ⟩ (ι bs)) (.cells #[ψ 0] 231));have bu:=bH.o ao.o.rd.byt;have ae:=κ bu;have ap:wc.heap.size<(w6.setCell ⟨wc.heap.size,5,ϋ⟩ (ι bs)).heap.size:=qq ao.o.b8;clear bu;generalize (w6.setCell ⟨wc.heap.size,5,ϋ⟩ (ι bs)).alloc (.cells #[ψ 0] 231)=W7 at *;have bx:(w6.setCell ⟨wc.heap.size,5,ϋ⟩ (ι bs)).heap.size=w6.heap.size:=by simp
  rw[bx] at ac ap;generalize w6.heap.size=N10 at *;generalize wc.heap.size=B8 at *;clear be bf ao cb z5 bx aX;have aR:=β0 G.o.b5
  go_cut [] from 41 (λaS=>PrQ w aS R hi w.heap.size hi B7 B8 N10 s3 t (dC f pic wd bs 0 ύ 0) q)
  case first=>
   cases hbt:(bit t 32||bit t 16) with
   | false=>
    have e:=am.o;unfold JF at e;rw[hbt,ώ η] at e;have ad:=aZ.o;rw[hbt] at ad;have H:Hid (0=q/\s2=s3):=κ (by cases e;exact⟨rfl,rfl⟩);clear e hbt;go_wp2;go_meet;rw[<-H.o.1,<-H.o.2];exact⟨G.o,ac.o⟩
   | true=>
    have e:=am.o;unfold JF at e;rw[hbt,ϒ rfl] at e;have ad:=aZ.o;rw[hbt] at ad;have H:Hid (nB s2=q/\tkS s2 1=s3):=κ (by cases e;exact⟨rfl,rfl⟩);have ah:num (tkB s2.1 1)=q:=H.o.1;have al:=κ ah;obtain⟨cu,cv⟩:=ae.o;clear e hbt ah
    go_wp2_with (go_at_call 52;(go_call xb G.o.rd as e w8 ⟨rfl,bC,U⟩;rw[al.o];have af:=κ (G.o.step (s':=tkS s2 1) bC U);have bF:=κ (U.blk ac.o (by have:=G.o.n1;have:=G.o.n5;have:=G.o.n7;have:=G.o.n8;omega));have cy:=ql (U.blk ac.o (by have:=G.o.n1;have:=G.o.n5;have:=G.o.n7;have:=G.o.n8;omega)) 0;have cw:=β0 (U.blk ac.o (by have:=G.o.n1;have:=G.o.n5;have:=G.o.n7;have:=G.o.n8;omega));clear bC U))
    go_meet;rw[<-H.o.2];exact⟨af.o.put10 ap,qF (qt bF.o 0 _) rfl⟩
  case rest=>
   have af:=κ hcut;clear hcut aR aU ac G;have bw:Ya f t s=(mkD f t (pic,wd) bs q,s3):=by unfold Ya;rw[ba.o];simp only[bb.o,am.o]
   have bd:=κ bw;clear bw;obtain⟨I,bo⟩: ∃I,I=(if bit t 32 then q/64 else -1):=⟨_,rfl⟩;obtain⟨O,bk⟩: ∃O,O=(if bit t 16 then q%32 else -1):=⟨_,rfl⟩;have ay:=κ bo;have aw:=κ bk;clear bo bk;obtain⟨av,ak⟩:=ν ((if ¬s3.2=0 then s3.2 else if 0<s3.1.length then 4 else 0));have aY:=κ ak;have aQ:=af.o.1.rd.small;by_cases he:s3.2=3
   ·have bV:av=3:=by rw[<-ak,he];rfl
    have Y:jf b=(ds0,0,3):=by rw[bc.o,bd.o];unfold Bi;rw[ϒ he]
    subst bV;have H:=κ Y;clear he ak Y aQ
    go_wp2_with first | (go_at_call 250;((with_reducible refine(PB af.o aa.o ae.o ap).mono ?_);rintro e w9 ⟨rfl,N⟩;rw[<-ay.o];obtain⟨N,ag⟩:=N;have az:Hid (PrS w (w9.setCell ⟨B8,6,ϋ⟩ (ι I)) R hi w.heap.size hi B7 B8 s3 t (dC f pic wd bs I (bit t 32&&bit q 32) 0)):=κ (N.put8 6 (ι I));have au:=κ (qs ag ⟨B8,6,ϋ⟩ (ι I) (by show N10≠B8;omega));have aT:=β6 N.b8;have aV:=ql N.b8 6;clear N ag)) | (go_at_call 250;((with_reducible refine(Cs (PrQ.mk az.o au.o) aa.o ae.o).mono ?_);rintro e w10 ⟨rfl,J⟩;rw[<-aw.o];obtain⟨J,aF⟩:=J;have d:Hid (PrS w (w10.setCell ⟨B8,8,ϋ⟩ (ι O)) R hi w.heap.size hi B7 B8 s3 t (dC f pic wd bs I (bit t 32&&bit q 32) O)):=κ (J.put8 8 (ι O));have cc:=β8 J.b8;have bE:=ql J.b8 8;have cd:=β0 d.o.b5;clear J aF aT aV)) | (go_at_call 57;(go_call zM d.o.rd as e bX ⟨rfl,rfl⟩)) | (go_at_call 59;(go_call vF d.o.rd as e bY ⟨rfl,rfl⟩;rw[aY.o];have aG:=β0 d.o.br;have ce:=ql d.o.br 0;have aH:=β1 d.o.br;have cf:=ql d.o.br 1;have aI:=β2 d.o.br;have cg:=ql d.o.br 2;have aJ:=β3 d.o.br;have ch:=ql d.o.br 3;have aK:=β4 d.o.br;have ci:=ql d.o.br 4;have aL:=β5 d.o.br;have cj:=ql d.o.br 5;have aM:=β6 d.o.br;have ck:=ql d.o.br 6;have aN:=β7 d.o.br;have cl:=ql d.o.br 7;have aO:=β8 d.o.br;have cm:=ql d.o.br 8;have bJ:=β0 d.o.b8;have bK:=β1 d.o.b8;have bL:=β2 d.o.b8;have bM:=β3 d.o.b8;have bN:=β4 d.o.b8;have bO:=β5 d.o.b8;have bP:=β6 d.o.b8;have bQ:=β7 d.o.b8;have bR:=β8 d.o.b8))
    (refine bodyPost_ret (v:= .tuple #[θ #[μ ύ,ύ,υ 0,ι 0,ύ,ι 0,ι 0,ύ,ι 0],ι 0,ι 3]) ?rr1 rfl ?_;(case rr1=>(simp[results,results195,go_sem,aG,aH,aI,aJ,aK,aL,aM,aN,aO])))
    have aA:=κ (λa0 aB aC a3 a4 a5 aD aE U=>qh.st9 d.o.more w.heap.size (ϕ _) a0 aB aC a3 a4 a5 aD aE U);refine⟨by rw[H.o];rfl, ?_⟩;exact aA.o _ _ _ _ _ _ _ _ _
   ·have cr:(av==3)=ύ:=by
     have: ¬av=3:=by
      rw[<-ak];split
      ·exact he
      ·split<;>decide
     simpa using this
    have Y:jf b=(mkD f t (pic,wd) bs q,(b.length:Int)-s3.1.length,0):=by rw[bc.o,bd.o];unfold Bi;rw[ώ he]
    have H:=κ Y;clear he ak Y
    go_wp2_with first | (go_at_call 250;((with_reducible refine(PB af.o aa.o ae.o ap).mono ?_);rintro e w9 ⟨rfl,N⟩;rw[<-ay.o];obtain⟨N,ag⟩:=N;have az:Hid (PrS w (w9.setCell ⟨B8,6,ϋ⟩ (ι I)) R hi w.heap.size hi B7 B8 s3 t (dC f pic wd bs I (bit t 32&&bit q 32) 0)):=κ (N.put8 6 (ι I));have au:=κ (qs ag ⟨B8,6,ϋ⟩ (ι I) (by show N10≠B8;omega));have aT:=β6 N.b8;have aV:=ql N.b8 6;clear N ag)) | (go_at_call 250;((with_reducible refine(Cs (PrQ.mk az.o au.o) aa.o ae.o).mono ?_);rintro e w10 ⟨rfl,J⟩;rw[<-aw.o];obtain⟨J,aF⟩:=J;have d:Hid (PrS w (w10.setCell ⟨B8,8,ϋ⟩ (ι O)) R hi w.heap.size hi B7 B8 s3 t (dC f pic wd bs I (bit t 32&&bit q 32) O)):=κ (J.put8 8 (ι O));have cc:=β8 J.b8;have bE:=ql J.b8 8;have cd:=β0 d.o.b5;clear J aF aT aV)) | (go_at_call 57;(go_call zM d.o.rd as e bX ⟨rfl,rfl⟩)) | (go_at_call 59;(go_call vF d.o.rd as e bY ⟨rfl,rfl⟩;rw[aY.o];have aG:=β0 d.o.br;have ce:=ql d.o.br 0;have aH:=β1 d.o.br;have cf:=ql d.o.br 1;have aI:=β2 d.o.br;have cg:=ql d.o.br 2;have aJ:=β3 d.o.br;have ch:=ql d.o.br 3;have aK:=β4 d.o.br;have ci:=ql d.o.br 4;have aL:=β5 d.o.br;have cj:=ql d.o.br 5;have aM:=β6 d.o.br;have ck:=ql d.o.br 6;have aN:=β7 d.o.br;have cl:=ql d.o.br 7;have aO:=β8 d.o.br;have cm:=ql d.o.br 8;have bJ:=β0 d.o.b8;have bK:=β1 d.o.b8;have bL:=β2 d.o.b8;have bM:=β3 d.o.b8;have bN:=β4 d.o.b8;have bO:=β5 d.o.b8;have bP:=β6 d.o.b8;have bQ:=β7 d.o.b8;have bR:=β8 d.o.b8))
    (refine bodyPost_ret (v:= .tuple #[θ #[μ (bit f 32),(bit f 16),υ (f%8),ι pic,wd,ι bs,ι I,(bit t 32&&bit q 32),ι O],ι ((b.length:Int)-s3.1.length),ι 0]) ?rr2 rfl ?_;(case rr2=>(simp[results,results195,go_sem,aG,aH,aI,aJ,aK,aL,aM,aN,aO])))
    have aA:=κ (λa0 aB aC a3 a4 a5 aD aE U=>qh.st9 d.o.more w.heap.size (ϕ _) a0 aB aC a3 a4 a5 aD aE U);refine⟨by rw[H.o,ay.o,aw.o];rfl, ?_⟩;exact aA.o _ _ _ _ _ _ _ _ _
def Ad (s:RdS):(zx s).2.2.1.length<=s.1.length:=by
 have d: ∀s:RdS,(tkS s 1).1.length<=s.1.length:=λs=>by unfold tkS tkL;rw[Ϡ];omega
 unfold zx;split
 ·exact ϙ (d _) (d _)
 ·exact d _
def Hy (b:List Int):0<=(jf b).2.1/\(jf b).2.1<=b.length:=by
 have d:=Ad (b,0);have G:=Dq (zx (b,0)).1 (zx (b,0)).2.1 (zx (b,0)).2.2;unfold jf Bi;split
 ·exact⟨T9 _,η⟩
 ·simp only at d ⊢;omega
def Xe (v:Value) (b:List Int) (w:World) (ar:SlI .u8 w v b) (N:Byt b) (ac:b.length<=1000000):
  Calls prog 134 #[v] w λe w'=>e= .returned (μ (xO b))/\qh w w':=by
 have J:=κ ar;have aq:=Hy b;have G:xO b=(decide ((jf b).2.2=0)&&(jf b).1.st&&decide ((jf b).1.pt=0)&&decide ((jf b).2.1<b.length)&&decide (b.getD (jf b).2.1.toNat 0%2=0)):=rfl;obtain⟨aF,aA,rfl,_,O,_⟩:=ar;obtain⟨au,am⟩:=ν ((jf b).1.st);obtain⟨ao,ak⟩:=ν ((jf b).1.pt);obtain⟨af,ag⟩:=ν ((jf b).2.1);obtain⟨an,aj⟩:=ν ((jf b).2.2);rw[ag] at aq;rw[am,ak,ag,aj] at G;have ab:=κ am;have aa:=κ ak;have Y:=κ ag;have U:=κ aj;obtain⟨ad,ae⟩:=aq;clear am ak ag aj;by_cases h1:an=0
 ·cases au with
  | false=>
   have H:Hid (xO b=ύ):=κ (by rw[G];simp);subst h1;clear G O ad ae
   go_enter func134,ntmps134
   go_wp2_with (go_at_call 195;(go_call kY _ b _ J.o N ac as e w2 ⟨rfl,d⟩;have I:=κ d;have ah:=κ ((J.o.keep d).keep (qh.alloc _ (.cells #[μ (jf b).1.lo,μ (jf b).1.st,υ (jf b).1.pt,ι (jf b).1.pic,μ (jf b).1.wd,ι (jf b).1.bs,ι (jf b).1.tr,μ (jf b).1.sy,ι (jf b).1.ky] 366)));clear d;rw[ab.o,aa.o,Y.o,U.o]))
   go_ret;exact⟨by rw[H.o];try rfl,I.o.al _⟩
  | true=>
   by_cases h2:ao=0
   ·by_cases h3:af<b.length
    ·obtain⟨k,rfl⟩: ∃k:Nat,af=k:=⟨af.toNat,τ⟩;have ay:k<b.length:=by omega
     obtain⟨ai,az,rfl,ap,aw⟩:=O k ay;have av:=N k;have H:Hid (xO b=decide (b.getD k 0%2=0)):=κ (by rw[G,Ϩ h1,Ϩ h2,Ϩ h3];simp);have ax: ¬(b.length:Int)<=(k:Int):=by omega
     subst h1 h2;clear G O ad ae;generalize b.getD k 0=x at *;obtain⟨aG,aH⟩:=av
     go_enter func134,ntmps134
     go_wp2_with (go_at_call 195;(go_call kY _ b _ J.o N ac as e w2 ⟨rfl,d⟩;have I:=κ d;rw[ab.o,aa.o,Y.o,U.o];have aE:w2.cell? ⟨ai,az+k,ϋ⟩=ϊ (υ x):=(by rw[d.cells ai _ ap];exact aw);have aD:ai<w2.heap.size:=ϗ ap d.size;clear d))
     go_ret;exact⟨by rw[H.o];first | rfl | (congr 2;rw[F2];simp),I.o.al _⟩
    ·have H:Hid (xO b=ύ):=κ (by rw[G,Ϯ h3];simp);have ax:(b.length:Int)<=af:=by omega
     subst h1 h2;clear G O ad ae
     go_enter func134,ntmps134
     go_wp2_with (go_at_call 195;(go_call kY _ b _ J.o N ac as e w2 ⟨rfl,d⟩;have I:=κ d;have ah:=κ ((J.o.keep d).keep (qh.alloc _ (.cells #[μ (jf b).1.lo,μ (jf b).1.st,υ (jf b).1.pt,ι (jf b).1.pic,μ (jf b).1.wd,ι (jf b).1.bs,ι (jf b).1.tr,μ (jf b).1.sy,ι (jf b).1.ky] 366)));clear d;rw[ab.o,aa.o,Y.o,U.o]))
     go_ret;exact⟨by rw[H.o];try rfl,I.o.al _⟩
   ·have H:Hid (xO b=ύ):=κ (by rw[G,Ϯ h2];simp);have aC:(ao != 0)=ό:=by simpa using h2
    subst h1;clear G O ad ae h2
    go_enter func134,ntmps134
    go_wp2_with (go_at_call 195;(go_call kY _ b _ J.o N ac as e w2 ⟨rfl,d⟩;have I:=κ d;have ah:=κ ((J.o.keep d).keep (qh.alloc _ (.cells #[μ (jf b).1.lo,μ (jf b).1.st,υ (jf b).1.pt,ι (jf b).1.pic,μ (jf b).1.wd,ι (jf b).1.bs,ι (jf b).1.tr,μ (jf b).1.sy,ι (jf b).1.ky] 366)));clear d;rw[ab.o,aa.o,Y.o,U.o]))
    go_ret;exact⟨by rw[H.o];try rfl,I.o.al _⟩
 ·have H:Hid (xO b=ύ):=κ (by rw[G,Ϯ h1];simp);have aB:(an != 0)=ό:=by simpa using h1
  clear G O ad ae h1
  go_enter func134,ntmps134
  go_wp2_with (go_at_call 195;(go_call kY _ b _ J.o N ac as e w2 ⟨rfl,d⟩;have I:=κ d;have ah:=κ ((J.o.keep d).keep (qh.alloc _ (.cells #[μ (jf b).1.lo,μ (jf b).1.st,υ (jf b).1.pt,ι (jf b).1.pic,μ (jf b).1.wd,ι (jf b).1.bs,ι (jf b).1.tr,μ (jf b).1.sy,ι (jf b).1.ky] 366)));clear d;rw[ab.o,aa.o,Y.o,U.o]))
  go_ret;exact⟨by rw[H.o];try rfl,I.o.al _⟩
def No: ∀m:Fin 256,bits .and .u8 (m.val:Int) 127=(m.val:Int)%128/\bits .and .u8 (m.val:Int) 15=(m.val:Int)%16:=Ϛ ξ
def Py (h:0<=x/\x<=255):bits .and .u8 x 127=x%128/\bits .and .u8 x 15=x%16:=by
 obtain⟨m,rfl⟩:=Θ h.1;exact No ⟨m,τ⟩
structure HdS (w0 w:World) (R hi Br Bd:Nat) (s:RdS) (q:Pk) (vs ve vp:Value):Prop where
 rd:qw w R s.1 s.2 (λg=>g<hi)
 more:qh w0 w
 br:w.heap[Br]? =ϊ (.cells #[.bool ύ,.int .u8 0,.int .u16 0,.int .u32 0,.int .u32 0,.slice ϋ 0 0,.bool ύ,.int .u16 0,.slice ϋ 0 0,.slice ϋ 0 0] 63 (0,0))
 bd:w.heap[Bd]? =ϊ (.cells #[.bool q.mr,.int .u8 q.ty,.int .u16 q.sq,.int .u32 q.st,.int .u32 q.sc,vs,.bool q.has,.int .u16 q.pr,ve,vp] 63 (0,0))
 rs:w.ownsRow (Bd+1) 38 1 vs q.ss.length (q.ss.map (Value.int .u32))
 re:w.ownsRow (Bd+1) 5 1 ve q.ex.length (q.ex.map (Value.int .u8))
 rp:w.ownsRow (Bd+1) 5 1 vp q.pl.length (q.pl.map (Value.int .u8))
 n0:w0.heap.size<=Br
 nR:Br<R
 n1:R<hi
 n5:hi<=Bd
def HdS.step {I:World} {Bd:Nat} {H G vp:Value} (h:HdS I w R hi Br Bd s q H G vp) (r:qw w' R s'.1 s'.2 (λg=>g<hi)) (a:qk (λb=>b=R) w w'):HdS I w' R hi Br Bd s' q H G vp:=by
 have:=h.n0;have:=h.nR;have:=h.n1;have:=h.n5;exact⟨r,qk.to_more h.more a (λk d=>by omega),a.blk h.br τ,a.blk h.bd τ,xS h.rs a (λk d=>by omega),xS h.re a (λk d=>by omega),xS h.rp a (λk d=>by omega),h.n0,h.nR,h.n1,h.n5⟩
def HdS.on {Bd:Nat} {G vp:Value} (h:HdS H w R hi Br Bd s q G d vp) (m:qh w w'):HdS H w' R hi Br Bd s q G d vp:=
 ⟨h.rd.more m,h.more.trans m,qj m h.br,qj m h.bd,jJ h.rs m,jJ h.re m,jJ h.rp m,h.n0,h.nR,h.n1,h.n5⟩
def HdS.fill {N:World} {Bd:Nat} {q':Pk} {J I vp G vp':Value} (h:HdS N w R hi Br Bd s q J I vp) (i:Nat) (v:Value)
  (O:((Γq q J I vp):Array Value).setIfInBounds i v= (Γq q' G d vp'))
  (aa:w.ownsRow (Bd+1) 38 1 G q'.ss.length (q'.ss.map (Value.int .u32))) (U:w.ownsRow (Bd+1) 5 1 d q'.ex.length (q'.ex.map (Value.int .u8))) (Y:w.ownsRow (Bd+1) 5 1 vp' q'.pl.length (q'.pl.map (Value.int .u8))):
  HdS N (w.setCell ⟨Bd,i,ϋ⟩ v) R hi Br Bd s q' G d vp':=by
 have:=h.n0;have:=h.nR;have:=h.n1;have:=h.n5;have a:qk (λb=>b=Bd) w (w.setCell ⟨Bd,i,ϋ⟩ v):=(qk.refl (λb=>b=Bd) w).set (p:=⟨Bd,i,ϋ⟩) rfl _;exact⟨h.rd.off a τ (λg ab e=>by omega),h.more.st (p:=⟨Bd,i,ϋ⟩) (by show _<=Bd;omega) _,a.blk h.br τ,qF (qt h.bd i v) O,xS aa a (λk H=>by omega),xS U a (λk H=>by omega),xS Y a (λk H=>by omega),h.n0,h.nR,h.n1,h.n5⟩
def HdS.scal {Bd:Nat} {G vp:Value} (h:HdS H w R hi Br Bd s q G d vp) (i:Nat) (v:Value) (q':Pk)
  (O:((Γq q G d vp):Array Value).setIfInBounds i v= (Γq q' G d vp)) (I:q'.ss=q.ss) (J:q'.ex=q.ex) (N:q'.pl=q.pl):HdS H (w.setCell ⟨Bd,i,ϋ⟩ v) R hi Br Bd s q' G d vp:=
 h.fill i v O (by rw[I];exact h.rs) (by rw[J];exact h.re) (by rw[N];exact h.rp)
def HdS.begin {w2:World} {b:List Int} (H:Z= Γc) (I:(w.alloc (.cells Z 63)).heap.size<=R)
  (r:qw w2 R b 0 (λg=>(w.alloc (.cells Z 63)).heap.size<=g/\g<w2.heap.size)) (m:qh (w.alloc (.cells Z 63)) w2):
  HdS w (w2.alloc (.cells Γc 63)) R w2.heap.size w.heap.size w2.heap.size (b,0) pk0 (δ ϋ 0 0) (δ ϋ 0 0) (δ ϋ 0 0):=by
 subst H;have G:R<w2.heap.size:=by obtain⟨v,d,_⟩:=r.blk;exact qq d
 have J:(w.alloc (.cells Γc 63)).heap.size=w.heap.size+1:=by simp
 exact⟨(r.mono λg h=>h.2).more Z0,(Z0.trans m).al _,qv (qj m (qp w _)) _,qp w2 _,World.ownsRow_nil _ _ _ _,World.ownsRow_nil _ _ _ _,World.ownsRow_nil _ _ _ _,ϕ _,τ,G,ϕ _⟩
def DD {G:Option Addr} {m cap:Nat} (h:w.ownsRow base e 1 (δ G m cap) l.length (l.map (Value.int k))) (O:n<=l.length) (ac:0<l.length):w.ownsRow base e 1 (δ G n cap) (l.take n).length ((l.take n).map (Value.int k)):=by
 obtain⟨ad,I⟩:=h;have d:(l.take n).length=n:=by rw[ϛ];omega
 rcases I with ⟨_,ae⟩ | ⟨g,ab,cur,H,J,N,af,aa,U,Y⟩
 ·omega
 ·cases H;refine⟨η,ϓ ⟨g,_,cur,by rw[d],J,N,by rw[d];omega,aa,U, ?_⟩⟩;rw[d,W4,List.map_take,<-Y,W5,W4,Nat.min_eq_left O]
def ZC (N:Option Addr) (cap:Nat) (b:List Int) (base:Nat) (w:World) (h:w.ownsRow base 5 1 (δ N b.length cap) b.length (b.map (Value.int .u8))) (ad:Byt b) (al:b.length<=1000000):
  Calls prog 58 #[δ N b.length cap] w λe w'=>(∃v,e= .returned (.tuple #[v,μ (za b).2])/\w.ownsRow base 5 1 v (za b).1.length ((za b).1.map (Value.int .u8)))/\w=w':=by
 have O:=κ h;obtain⟨ap,ag,ab,an,d,G,_⟩:=SlI.of_owns h τ;cases ab;have J:(∃v,(Ending.returned (.tuple #[δ ϋ 0 0,ύ]))= .returned (.tuple #[v,ύ])/\w.ownsRow base 5 1 v ([]:List Int).length (([]:List Int).map (Value.int .u8))):=⟨_,rfl,World.ownsRow_nil _ _ _ _⟩;have I:=κ J;clear J;by_cases h0:b.length=0
 ·have e:za b=([],ύ):=by unfold za;rw[ϒ (A4.1 h0)]
  rw[e];have ac:(b.length:Int)=0:=by omega
  clear d h e G
  go_enter func58,ntmps58
  go_wp2
  go_ret2
  exact⟨I.o,rfl⟩
 ·obtain⟨aa,af,rfl,ah,ai⟩:=d (b.length-1) τ;have ae:=ad (b.length-1);have ac:((b.length:Int)==0)=ύ:=by rw[beq_eq_false_iff_ne];omega
  have H: ¬b=[]:=λe=>h0 (by rw[e];rfl)
  have e:za b=if b.getD (b.length-1) 0=0∨(b.length:Int)<b.getD (b.length-1) 0 then ([],ύ) else (b.take (b.length-(b.getD (b.length-1) 0).toNat),ό):=by unfold za;rw[ώ H]
  have hi:((b.length:Int)-1).toNat=b.length-1:=by omega
  have am:(b.length:Int)-1<(b.length:Int):=by omega
  have aj:0<=(b.length:Int)-1:=by omega
  have ak:1<=(b.length:Int):=by omega
  generalize b.getD (b.length-1) 0=x at *;obtain⟨aq,ar⟩:=ae;by_cases hx0:x=0
  ·rw[ϒ (ϐ hx0)] at e;rw[e];subst hx0;clear d h e G h0 H
   go_enter func58,ntmps58
   go_wp2
   go_ret2
   exact⟨I.o,rfl⟩
  ·have ao:(x==0)=ύ:=by simpa using hx0
   by_cases hxl:(b.length:Int)<x
   ·rw[ϒ (ϓ hxl)] at e;rw[e];clear d h e G h0 H hx0
    go_enter func58,ntmps58
    go_wp2
    go_ret2
    exact⟨I.o,rfl⟩
   ·rw[ώ τ] at e;rw[e];have s1:(b.length:Int)-x<=(cap:Int):=by omega
    have s2:((b.length:Int)-x).toNat=b.length-x.toNat:=by omega
    have U:=κ (DD O.o (n:=b.length-x.toNat) τ τ);have Y:=κ s2;clear d h e h0 H hx0 G
    go_enter func58,ntmps58
    go_wp2
    go_ret2
    exact⟨⟨δ (ϊ ⟨aa,af,ϋ⟩) (b.length-x.toNat) cap,by first | rfl | rw[Y.o],by have:=U.o;rw[ϛ,List.map_take,Nat.min_eq_left (Nat.sub_le _ _)] at this;exact this⟩,rfl⟩
def HdS.grow {Bd:Nat} {vs v':Value} (h:HdS w0 w R hi Br Bd s q vs (δ ϋ 0 0) (δ ϋ 0 0)) (he:q.ex=[]) (hp:q.pl=[]) (ho:w'.ownsRow (Bd+1) 38 1 v' l.length (l.map (Value.int .u32))) (g:w.grownBy w' vs.ownBlock):
  HdS w0 (w'.setCell ⟨Bd,5,ϋ⟩ v') R hi Br Bd s {q with ss:=l} v' (δ ϋ 0 0) (δ ϋ 0 0):=by
 have h0:=h.n0;have h1:=h.nR;have h2:=h.n1;have h5:=h.n5;have hge: ∀z,vs.ownBlock=ϊ z->Bd+1<=z:=λz hz=>jP h.rs hz
 have aG:qk (λz=>vs.ownBlock=ϊ z) w w':=⟨g.os,g.tape,g.output,g.size,λk hk hs=>g.block k hk (λe=>hs e.symm)⟩;have a:qk (λb=>b=Bd) w' (w'.setCell ⟨Bd,5,ϋ⟩ v'):=(qk.refl (λb=>b=Bd) w').set (p:=⟨Bd,5,ϋ⟩) rfl _;have hR: ¬vs.ownBlock=ϊ R:=λe=>by have:=hge R e;omega
 have hBr: ¬vs.ownBlock=ϊ Br:=λe=>by have:=hge Br e;omega
 have hBd: ¬vs.ownBlock=ϊ Bd:=λe=>by have:=hge Bd e;omega
 refine⟨(h.rd.off aG hR (λz hz e=>by have:=hge z e;omega)).off a τ (λz hz e=>by omega), ?_,a.blk (aG.blk h.br hBr) τ,qF (qt (aG.blk h.bd hBd) 5 v') rfl,xS ho a (λk hk=>by omega), ?_, ?_,h.n0,h.nR,h.n1,h.n5⟩
 ·exact(qk.to_more h.more aG (λk hk=>by have:=hge k hk;omega)).st (p:=⟨Bd,5,ϋ⟩) (by show _<=Bd;omega) _
 ·show World.ownsRow _ _ _ _ _ q.ex.length (q.ex.map _);rw[he];exact World.ownsRow_nil _ _ _ _
 ·show World.ownsRow _ _ _ _ _ q.pl.length (q.pl.map _);rw[hp];exact World.ownsRow_nil _ _ _ _
def qh.st10 (m:qh w0 w) (B:Nat) (hB:w0.heap.size<=B) (v0 v1 v2 v3 v4 v5 v6 v7 v8 v9:Value):
  qh w0 ((((((((((w.setCell ⟨B,0,ϋ⟩ v0).setCell ⟨B,1,ϋ⟩ v1).setCell ⟨B,2,ϋ⟩ v2).setCell ⟨B,3,ϋ⟩ v3).setCell ⟨B,4,ϋ⟩ v4).setCell ⟨B,5,ϋ⟩ v5).setCell ⟨B,6,ϋ⟩ v6).setCell ⟨B,7,ϋ⟩ v7).setCell ⟨B,8,ϋ⟩ v8).setCell ⟨B,9,ϋ⟩ v9):=
 (((((((((m.st (p:=⟨B,0,ϋ⟩) hB v0).st (p:=⟨B,1,ϋ⟩) hB v1).st (p:=⟨B,2,ϋ⟩) hB v2).st (p:=⟨B,3,ϋ⟩) hB v3).st (p:=⟨B,4,ϋ⟩) hB v4).st (p:=⟨B,5,ϋ⟩) hB v5).st (p:=⟨B,6,ϋ⟩) hB v6).st (p:=⟨B,7,ϋ⟩) hB v7).st (p:=⟨B,8,ϋ⟩) hB v8).st (p:=⟨B,9,ϋ⟩) hB v9
def Aw (w:World) (B:Nat) (v0 v1 v2 v3 v4 v5 v6 v7 v8 v9:Value):
  qk (λb=>b=B) w ((((((((((w.setCell ⟨B,0,ϋ⟩ v0).setCell ⟨B,1,ϋ⟩ v1).setCell ⟨B,2,ϋ⟩ v2).setCell ⟨B,3,ϋ⟩ v3).setCell ⟨B,4,ϋ⟩ v4).setCell ⟨B,5,ϋ⟩ v5).setCell ⟨B,6,ϋ⟩ v6).setCell ⟨B,7,ϋ⟩ v7).setCell ⟨B,8,ϋ⟩ v8).setCell ⟨B,9,ϋ⟩ v9):=
 ((((((((((qk.refl (λb=>b=B) w).set (p:=⟨B,0,ϋ⟩) rfl v0).set (p:=⟨B,1,ϋ⟩) rfl v1).set (p:=⟨B,2,ϋ⟩) rfl v2).set (p:=⟨B,3,ϋ⟩) rfl v3).set (p:=⟨B,4,ϋ⟩) rfl v4).set (p:=⟨B,5,ϋ⟩) rfl v5).set (p:=⟨B,6,ϋ⟩) rfl v6).set (p:=⟨B,7,ϋ⟩) rfl v7).set (p:=⟨B,8,ϋ⟩) rfl v8).set (p:=⟨B,9,ϋ⟩) rfl v9
def UO (l:List Int) (e:Int):tkB l (l.length:Int)=l/\tkL l (l.length:Int)=[]/\tkE l (l.length:Int) e=e:=by
 refine⟨?_, ?_, ?_⟩
 ·unfold tkB;simp
 ·unfold tkL;simp
 ·unfold tkE;rw[ώ τ]
def gO (h:w.ownsRow base e 1 v n xs):(n:Int)<=9223372036854775807:=by
 rcases h.2 with ⟨-,rfl⟩ | ⟨g,cap,cur,-,-,-,h1,h2,-⟩
 ·omega
 ·unfold maxLen at h2;omega
def Eb {t:TypeId} {a1 a2 a5 a6 a7 a8 a9:Value} (h:w.heap[B]? =ϊ (.cells #[a0,a1,a2,a3,a4,a5,a6,a7,a8,a9] t (0,0))) (v0 v1 v2 v3 v4 v5 v6 v7 v8 v9:Value):
  ((((((((((w.setCell ⟨B,0,ϋ⟩ v0).setCell ⟨B,1,ϋ⟩ v1).setCell ⟨B,2,ϋ⟩ v2).setCell ⟨B,3,ϋ⟩ v3).setCell ⟨B,4,ϋ⟩ v4).setCell ⟨B,5,ϋ⟩ v5).setCell ⟨B,6,ϋ⟩ v6).setCell ⟨B,7,ϋ⟩ v7).setCell ⟨B,8,ϋ⟩ v8).setCell ⟨B,9,ϋ⟩ v9).heap[B]? =ϊ (.cells #[v0,v1,v2,v3,v4,v5,v6,v7,v8,v9] t (0,0)):=
 by
 have h:=qF (cs':= #[v0,a1,a2,a3,a4,a5,a6,a7,a8,a9]) (qt h 0 v0) rfl;have h:=qF (cs':= #[v0,v1,a2,a3,a4,a5,a6,a7,a8,a9]) (qt h 1 v1) rfl;have h:=qF (cs':= #[v0,v1,v2,a3,a4,a5,a6,a7,a8,a9]) (qt h 2 v2) rfl;have h:=qF (cs':= #[v0,v1,v2,v3,a4,a5,a6,a7,a8,a9]) (qt h 3 v3) rfl;have h:=qF (cs':= #[v0,v1,v2,v3,v4,a5,a6,a7,a8,a9]) (qt h 4 v4) rfl;have h:=qF (cs':= #[v0,v1,v2,v3,v4,v5,a6,a7,a8,a9]) (qt h 5 v5) rfl;have h:=qF (cs':= #[v0,v1,v2,v3,v4,v5,v6,a7,a8,a9]) (qt h 6 v6) rfl;have h:=qF (cs':= #[v0,v1,v2,v3,v4,v5,v6,v7,a8,a9]) (qt h 7 v7) rfl;have h:=qF (cs':= #[v0,v1,v2,v3,v4,v5,v6,v7,v8,a9]) (qt h 8 v8) rfl;have h:=qF (cs':= #[v0,v1,v2,v3,v4,v5,v6,v7,v8,v9]) (qt h 9 v9) rfl;exact h
def Vw {t:TypeId} {a1 a2 a5 a6 a7 a8 a9:Value} (h:w.heap[B]? =ϊ (.cells #[a0,a1,a2,a3,a4,a5,a6,a7,a8,a9] t (0,0))):w.cell? ⟨B,0,ϋ⟩=ϊ a0/\w.cell? ⟨B,1,ϋ⟩=ϊ a1/\w.cell? ⟨B,2,ϋ⟩=ϊ a2/\w.cell? ⟨B,3,ϋ⟩=ϊ a3/\w.cell? ⟨B,4,ϋ⟩=ϊ a4/\w.cell? ⟨B,5,ϋ⟩=ϊ a5/\w.cell? ⟨B,6,ϋ⟩=ϊ a6/\w.cell? ⟨B,7,ϋ⟩=ϊ a7/\w.cell? ⟨B,8,ϋ⟩=ϊ a8/\w.cell? ⟨B,9,ϋ⟩=ϊ a9:=
 ⟨qi h 0 rfl,qi h 1 rfl,qi h 2 rfl,qi h 3 rfl,qi h 4 rfl,qi h 5 rfl,qi h 6 rfl,qi h 7 rfl,qi h 8 rfl,qi h 9 rfl⟩
def MU {t:TypeId} {a1 a2 a5 a6 a7 a8 a9:Value} (h:w.heap[B]? =ϊ (.cells #[a0,a1,a2,a3,a4,a5,a6,a7,a8,a9] t (0,0))):w.frozen? ⟨B,0,ϋ⟩=ύ/\w.frozen? ⟨B,1,ϋ⟩=ύ/\w.frozen? ⟨B,2,ϋ⟩=ύ/\w.frozen? ⟨B,3,ϋ⟩=ύ/\w.frozen? ⟨B,4,ϋ⟩=ύ/\w.frozen? ⟨B,5,ϋ⟩=ύ/\w.frozen? ⟨B,6,ϋ⟩=ύ/\w.frozen? ⟨B,7,ϋ⟩=ύ/\w.frozen? ⟨B,8,ϋ⟩=ύ/\w.frozen? ⟨B,9,ϋ⟩=ύ:=
 ⟨ql h 0,ql h 1,ql h 2,ql h 3,ql h 4,ql h 5,ql h 6,ql h 7,ql h 8,ql h 9⟩
def GT {t:TypeId} {a1 a2 a5 a6 a7 a8 a9:Value} (m:qh w0 w) (hB:w0.heap.size<=B) (h:w.heap[B]? =ϊ (.cells #[a0,a1,a2,a3,a4,a5,a6,a7,a8,a9] t (0,0))) (v0 v1 v2 v3 v4 v5 v6 v7 v8 v9:Value):
  ∃WF,((((((((((w.setCell ⟨B,0,ϋ⟩ v0).setCell ⟨B,1,ϋ⟩ v1).setCell ⟨B,2,ϋ⟩ v2).setCell ⟨B,3,ϋ⟩ v3).setCell ⟨B,4,ϋ⟩ v4).setCell ⟨B,5,ϋ⟩ v5).setCell ⟨B,6,ϋ⟩ v6).setCell ⟨B,7,ϋ⟩ v7).setCell ⟨B,8,ϋ⟩ v8).setCell ⟨B,9,ϋ⟩ v9)=WF/\qh w0 WF/\qk (λb=>b=B) w WF/\WF.cell? ⟨B,0,ϋ⟩=ϊ v0/\WF.cell? ⟨B,1,ϋ⟩=ϊ v1/\WF.cell? ⟨B,2,ϋ⟩=ϊ v2/\WF.cell? ⟨B,3,ϋ⟩=ϊ v3/\WF.cell? ⟨B,4,ϋ⟩=ϊ v4/\WF.cell? ⟨B,5,ϋ⟩=ϊ v5/\WF.cell? ⟨B,6,ϋ⟩=ϊ v6/\WF.cell? ⟨B,7,ϋ⟩=ϊ v7/\WF.cell? ⟨B,8,ϋ⟩=ϊ v8/\WF.cell? ⟨B,9,ϋ⟩=ϊ v9:=
 ⟨_,rfl,m.st10 B hB v0 v1 v2 v3 v4 v5 v6 v7 v8 v9,Aw w B v0 v1 v2 v3 v4 v5 v6 v7 v8 v9,Vw (Eb h v0 v1 v2 v3 v4 v5 v6 v7 v8 v9)⟩
def KX (r:Pk×Int) (w:World) (e:Ending) (w':World):Prop:=
 ∃vs ve vp,e= .returned (.tuple #[.agg #[.bool r.1.mr,.int .u8 r.1.ty,.int .u16 r.1.sq,.int .u32 r.1.st,.int .u32 r.1.sc,vs,.bool r.1.has,.int .u16 r.1.pr,ve,vp],.int .i64 r.2])/\PkS w' vs ve vp r.1/\qh w w'
def vE (r:Pk×Int) (w:World) (e:Ending) (w':World):Prop:=
 ∃vs ve vp,e= .returned (.tuple #[.agg #[.bool r.1.mr,.int .u8 r.1.ty,.int .u16 r.1.sq,.int .u32 r.1.st,.int .u32 r.1.sc,vs,.bool r.1.has,.int .u16 r.1.pr,ve,vp],.int .i64 r.2])/\PkS w' vs ve vp r.1/\qh w w'/\ ∀b,(vs.ownBlock=ϊ b∨ve.ownBlock=ϊ b∨vp.ownBlock=ϊ b)->w.heap.size<=b
def vE.post {r:Pk×Int} {e:Ending} (h:vE r w e w'):KX r w e w':=by
 obtain⟨vs,ve,vp,h1,h2,h3,_⟩:=h;exact⟨vs,ve,vp,h1,h2,h3⟩
def Kt (b:Nat) (h:(δ ϋ 0 0).ownBlock=ϊ b∨(δ ϋ 0 0).ownBlock=ϊ b∨(δ ϋ 0 0).ownBlock=ϊ b):w.heap.size<=b:=by
 rcases h with h | h | h<;>cases h
def XJ (h:Byt s.1) (k:Nat) (hk:k<=4):0<=num (tkB s.1 k)/\num (tkB s.1 k)<2 ^ (8* k):=zY (tkB s.1 k) k (jX h k) (zE s.1 k τ) τ
def s9H (f:Int) (s:RdS):RdS:=if bit f 32 then (if (za s.1).2 then ([],s.2) else wrS ([],s.2) 2) else ([],s.2)
def l9H (f:Int) (s:RdS):List Int:=if bit f 32 then (za s.1).1 else s.1
def Hs {f:Int} {s:RdS} (h:Xm s):(s9H f s).2=(yR f s).2/\(s9H f s).1=[]/\((yR f s).2=0->l9H f s=(yR f s).1):=by
 obtain⟨l,e⟩:=s;unfold s9H yR l9H bit;by_cases he:e=0
 ·subst he;by_cases h1:f/32%2=1
  ·simp only[h1,decide_true,Ψ,not_true,C4];by_cases h2:(za l).2=ό
   ·simp[h2]
   ·simp only[h2];unfold wrS;simp
  ·simp[h1]
 ·have hl:l=[]:=h he;subst hl;by_cases h1:f/32%2=1
  ·have hu:(za []).2=ύ:=rfl;simp[h1,hu,wrS,he]
  ·simp[h1,he]
def Uy (v:Value) (b:List Int) (w:World) (sl:SlI .u8 w v b) (hl:(200:Int)<b.length):
  Calls prog 16 #[v] w (vE (jS b) w):=by
 have e:jS b=(pk0,4):=by unfold jS;rw[ϒ hl]
 rw[e];obtain⟨ob,cb,rfl,_⟩:=sl;clear e
 go_enter func16,ntmps16
 go_wp2
 (refine bodyPost_ret (v:= .tuple #[Γc,ι 4]) ?rr1 rfl ?_;(case rr1=>(simp[results,results16,go_sem])))
 refine⟨δ ϋ 0 0,δ ϋ 0 0,δ ϋ 0 0,rfl,⟨SlI.nil _ _,SlI.nil _ _,SlI.nil _ _⟩, ?_,Kt⟩;exact qh.alloc _ _
def QX (v:Value) (b:List Int) (w:World) (sl:SlI .u8 w v b) (hb:Byt b) (hl: ¬(200:Int)<b.length):
  Calls prog 16 #[v] w (vE (jS b) w):=by
 obtain⟨i0,hi',hz0,hz1,hz2⟩:=info_parts (P:=prog) (e:=38) (z:= ω 0) (size:=1) (bytes:=4) ξ;have SL:=κ (sl.keep (qh.alloc w (.cells Γc 63)));have hrd:jS b=Xk b (zU (fH b) (yA (fH b) (s5H b))):=by unfold jS;rw[ώ hl]
 have b1:Byt (s1H b).1:=hb.drop _;have b2:Byt (s2H b).1:=b1.drop _;have b3:Byt (s3H b).1:=b2.drop _;have b4:Byt (s4H b).1:=b3.drop _;have u1:=XJ (s:=(b,0)) hb 1 ζ;have u2:=XJ b1 1 ζ;obtain⟨f,hf⟩:=ν (fH b);obtain⟨g,hg⟩:=ν (gH b);obtain⟨sq,hsq⟩: ∃x,num (tkB (s2H b).1 2)=x:=⟨_,rfl⟩;obtain⟨st,hst⟩: ∃x,num (tkB (s3H b).1 4)=x:=⟨_,rfl⟩;obtain⟨sc,hsc⟩: ∃x,num (tkB (s4H b).1 4)=x:=⟨_,rfl⟩;have f0:0<=f/\f<=255:=by rw[<-hf];have h1:num (tkB b 1)<256:=u1.2;have h0:0<=num (tkB b 1):=u1.1;unfold fH;omega
 have g0:0<=g/\g<=255:=by rw[<-hg];have h1:num (tkB (s1H b).1 1)<256:=u2.2;have h0:0<=num (tkB (s1H b).1 1):=u2.1;unfold gH;omega
 have E1:Hid (num (tkB b 1)=f):=κ hf;have E2:Hid (num (tkB (s1H b).1 1)=g):=κ hg;have E3:=κ hsq;have E4:=κ hst;have E5:=κ hsc;have hga:=(Py g0).1;have hfa:=(Py f0).2;have hfb:=(XW f0).2.2.2;have hfc:=(XW f0).2.2.1;have hmk: ∀x l,mkH b x l=⟨decide (128<=g),g%128,sq,st,sc,x.1,bit f 16,x.2.1,x.2.2,l⟩:=λx l=>by unfold mkH bit;rw[hf,hg,hsq,hst,hsc]
 have hen: ∀x,Xk b x=if (yR f x.2).2=0 then (mkH b x.1 (yR f x.2).1,0) else (pk0,(yR f x.2).2):=λx=>by unfold Xk;rw[hf]
 rw[hf] at hrd;obtain⟨S6,hS6⟩:=ν (yA f (s5H b));have hsh6:Xm S6:=by
  rw[<-hS6];have h5:Xm (s5H b):=by rw[GZ];exact vQ _ _
  unfold yA wrS;split
  ·split
   ·exact h5
   ·intro _;rfl
  ·exact h5
 rw[hS6] at hrd;rw[hrd,hen,hmk];obtain⟨X,hX⟩:=ν (zU f S6);rw[hX];obtain⟨⟨L7,P7,X7⟩,S8⟩:=X;have hx0:(L7=(xf (f%16).toNat S6).1)/\(bit f 16=ό->P7=(gE (xf (f%16).toNat S6).2).1.1/\X7=(gE (xf (f%16).toNat S6).2).1.2/\S8=(gE (xf (f%16).toNat S6).2).2)/\(bit f 16=ύ->P7=0/\X7=[]/\S8=(xf (f%16).toNat S6).2):=by
  unfold zU at hX;unfold bit;by_cases h1:f/16%2=1
  ·rw[ϒ h1] at hX;cases hX;simp[h1]
  ·rw[ώ h1] at hX;cases hX;simp[h1]
 clear hX;have HS6:=κ hS6;obtain⟨f0,f1⟩:=f0;obtain⟨g0,g1⟩:=g0;have hs9t:bit f 32=ό->s9H f S8=(if (za S8.1).2 then ([],S8.2) else wrS ([],S8.2) 2)/\l9H f S8=(za S8.1).1:=λh=>by unfold s9H l9H;simp[h]
 have hs9f:bit f 32=ύ->s9H f S8=([],S8.2)/\l9H f S8=S8.1:=λh=>by unfold s9H l9H;simp[h]
 have hs9p:=λh=> @Hs f S8 h
 obtain⟨S9,hS9⟩:=ν (s9H f S8);obtain⟨L9,hL9⟩:=ν (l9H f S8);obtain⟨FH,hFH⟩:=ν (bit f 16);obtain⟨FP,hFP⟩:=ν (bit f 32);rw[hS9,hL9,hFP] at hs9t hs9f;rw[hS9,hL9] at hs9p;rw[hFH] at hx0 hfb ⊢;rw[hFP] at hfc;obtain⟨PL,hPL⟩:=ν ((yR f S8).1);obtain⟨PE,hPE⟩:=ν ((yR f S8).2);rw[hPL,hPE] at hs9p ⊢;have H9T:=κ hs9t;have H9F:=κ hs9f;have H9P:=κ hs9p;clear hs9t hs9f hs9p hS9 hL9 hFH hFP hPL hPE;obtain⟨QR,hQR⟩: ∃QR:Pk×Int,(if PE=0 then (Pk.mk (decide (128<=g)) (g%128) sq st sc L7 FH P7 X7 PL,(0:Int)) else (pk0,PE))=QR:=⟨_,rfl⟩;rw[hQR];obtain⟨ob,cb,rfl,-⟩:=sl;have hgm:0<=g%128/\g%128<=127:=by omega
 obtain⟨NS,hNS⟩: ∃NS:Nat,f%16=(NS:Int):=⟨(f%16).toNat,τ⟩;have hns15:NS<=15:=by omega
 have hnst:(f%16).toNat=NS:=by omega
 rw[hNS] at hfa;rw[hnst] at hx0;have HX0:=κ hx0;clear hx0;have HNST:=κ hnst;clear hrd b1 b2 b3 b4 u1 u2 hf hg hsq hst hsc hmk hen hS6 hsh6 hNS hnst;obtain⟨GM,hGM⟩:=ν (g%128);rw[hGM] at hga hgm hQR;have HQ:=κ hQR;clear hQR;obtain⟨gm0,gm1⟩:=hgm;clear hGM;have hb200:b.length<=1000000:=by omega
 go_enter func16,ntmps16
 go_upto_region 10 with (first | (go_at_call 51;(go_call kQ _ b _ SL.o hb hb200 as e w2 ⟨R,rfl,hR,hr,hm⟩;have H0:=κ (HdS.begin rfl hR hr hm);clear hR hr hm)) | (go_at_call 52;((with_reducible refine(xb H0.o.rd).mono ?_);rintro e w3 ⟨rfl,r3,a3⟩;rw[E1.o];have H1:=κ (H0.o.step (s':=s1H b) r3 a3);clear r3 a3)) | (go_at_call 52;((with_reducible refine(xb H1.o.rd).mono ?_);rintro e w4 ⟨rfl,r4,a4⟩;rw[E2.o];have H2:=κ (H1.o.step (s':=s2H b) r4 a4);clear r4 a4;have x0:=β0 H2.o.bd;have z0:=ql H2.o.bd 0;have x1:=β1 H2.o.bd;have z1:=ql H2.o.bd 1;have H3:Hid (HdS w ((w4.setCell ⟨w2.heap.size,0,ϋ⟩ (μ (decide (128<=g)))).setCell ⟨w2.heap.size,1,ϋ⟩ (υ GM)) R w2.heap.size w.heap.size w2.heap.size (s2H b) ⟨(decide (128<=g)),GM,0,0,0,[],ύ,0,[],[]⟩ (δ ϋ 0 0) (δ ϋ 0 0) (δ ϋ 0 0)):=κ ((H2.o.scal 0 (μ (decide (128<=g))) ⟨(decide (128<=g)),0,0,0,0,[],ύ,0,[],[]⟩ rfl rfl rfl rfl).scal 1 (υ GM) ⟨(decide (128<=g)),GM,0,0,0,[],ύ,0,[],[]⟩ rfl rfl rfl rfl))) | (go_at_call 53;(go_call xF H3.o.rd as e w5 ⟨rfl,r5,a5⟩;rw[E3.o];have H4:=κ (H3.o.step (s':=s3H b) r5 a5);clear r5 a5 x0 z0 x1 z1;have x2:=β2 H4.o.bd;have z2:=ql H4.o.bd 2;have H5:Hid (HdS w (w5.setCell ⟨w2.heap.size,2,ϋ⟩ (φ sq)) R w2.heap.size w.heap.size w2.heap.size (s3H b) ⟨(decide (128<=g)),GM,sq,0,0,[],ύ,0,[],[]⟩ (δ ϋ 0 0) (δ ϋ 0 0) (δ ϋ 0 0)):=κ (H4.o.scal 2 (φ sq) ⟨(decide (128<=g)),GM,sq,0,0,[],ύ,0,[],[]⟩ rfl rfl rfl rfl))) | (go_at_call 54;((with_reducible refine(jK H5.o.rd).mono ?_);rintro e w6 ⟨rfl,r6,a6⟩;rw[E4.o];have H6:=κ (H5.o.step (s':=s4H b) r6 a6);clear r6 a6 x2 z2;have x3:=β3 H6.o.bd;have z3:=ql H6.o.bd 3;have H7:Hid (HdS w (w6.setCell ⟨w2.heap.size,3,ϋ⟩ (ω st)) R w2.heap.size w.heap.size w2.heap.size (s4H b) ⟨(decide (128<=g)),GM,sq,st,0,[],ύ,0,[],[]⟩ (δ ϋ 0 0) (δ ϋ 0 0) (δ ϋ 0 0)):=κ (H6.o.scal 3 (ω st) ⟨(decide (128<=g)),GM,sq,st,0,[],ύ,0,[],[]⟩ rfl rfl rfl rfl))) | (go_at_call 54;((with_reducible refine(jK H7.o.rd).mono ?_);rintro e w7 ⟨rfl,r7,a7⟩;rw[E5.o];have H8:=κ (H7.o.step (s':=s5H b) r7 a7);clear r7 a7 x3 z3;have x4:=β4 H8.o.bd;have z4:=ql H8.o.bd 4;have H9:Hid (HdS w (w7.setCell ⟨w2.heap.size,4,ϋ⟩ (ω sc)) R w2.heap.size w.heap.size w2.heap.size (s5H b) ⟨(decide (128<=g)),GM,sq,st,sc,[],ύ,0,[],[]⟩ (δ ϋ 0 0) (δ ϋ 0 0) (δ ϋ 0 0)):=κ (H8.o.scal 4 (ω sc) ⟨(decide (128<=g)),GM,sq,st,sc,[],ύ,0,[],[]⟩ rfl rfl rfl rfl))))
 generalize w7.setCell ⟨w2.heap.size,4,ϋ⟩ (ω sc)=W9 at *;generalize w2.heap.size=hi at *;clear H0 H1 H2 H3 H4 H5 H6 H7 H8 x4 z4 SL E1 E2 E3 E4 E5;obtain⟨FB,fb1,fb2⟩: ∃FB:Bool,(FB=ό->(f<128∨191<f))/\(FB=ύ-> ¬(f<128∨191<f)):=⟨decide (f<128∨191<f),λh=>by simpa using h,λh=>by simpa using h⟩;have FB1:=κ fb1;have FB2:=κ fb2;clear fb1 fb2
 go_cut [46] from 41 (λs46 wx=>s46= μ FB/\wx=W9)
 case first=>
  cases FB with
  | true=>
   have hh:=FB1.o η;by_cases h1:f<128
   ·clear hh;go_wp2;go_meet;exact⟨rfl,rfl⟩
   ·have h2:191<f:=by omega
    clear hh;go_wp2;go_meet;exact⟨rfl,rfl⟩
  | false=>
   have hh:=FB2.o η;have h1: ¬f<128:=by omega
   have h2: ¬191<f:=by omega
   clear hh;go_wp2;go_meet;exact⟨rfl,rfl⟩
 case rest=>
 obtain⟨rfl,rfl⟩:=hcut
 go_upto_if 46 with fail
 go_cut [] from 47 (λwx=>HdS w wx R hi w.heap.size hi S6 ⟨(decide (128<=g)),GM,sq,st,sc,[],ύ,0,[],[]⟩ (δ ϋ 0 0) (δ ϋ 0 0) (δ ϋ 0 0))
 case first=>
  cases FB with
  | true=>
   have hS:yA f (s5H b)=wrS (s5H b) 2:=by unfold yA;rw[ϒ (FB1.o η)]
   have HX:=κ (HS6.o.symm.trans hS);clear hS
   go_wp2_with (go_at_call 55;(go_call zN H9.o.rd 2 as e w10 ⟨rfl,r10,a10⟩;have H10:=κ (H9.o.step (s':=wrS (s5H b) 2) r10 a10);clear r10 a10))
   go_meet;rw[HX.o];exact H10.o
  | false=>
   have hS:yA f (s5H b)=s5H b:=by unfold yA;rw[ώ (FB2.o η)]
   have HX:=κ (HS6.o.symm.trans hS);clear hS;go_wp2;go_meet;rw[HX.o];exact H9.o
 case rest=>
 have HC:=κ hcut;clear hcut H9 FB1 FB2 HS6;go_wp2
 go_loopw [51] (λi wr=> ∃k:Nat,k<=NS/\i= υ k/\ ∃vs,HdS w wr R hi w.heap.size hi (xf k S6).2 ⟨(decide (128<=g)),GM,sq,st,sc,(xf k S6).1,ύ,0,[],[]⟩ vs (δ ϋ 0 0) (δ ϋ 0 0)) (λi _=>NS-(intOf i).toNat)
 case atStart=>exact⟨0,τ,rfl,_,HC.o⟩
 case round=>
  obtain⟨k,hk,rfl,vs,hwx⟩:=hrel;have HW:=κ hwx;by_cases hlt:k<NS
  ·have hki:(k:Int)<(NS:Int):=by omega
   have hll:=QG k S6;have HLL:=κ hll;obtain⟨os,ns,cs,rfl,hns,_⟩:=jc hwx.rs;subst hns;have hbd: ¬(hi=R∨(δ os (xf k S6).1.length cs).ownBlock=ϊ hi):=by
    rintro(e | e)
    ·have:=HW.o.n1;omega
    ·have:=jP HW.o.rs e;omega
   have C5:=λ(x:qC (λb=>b=R∨(δ os (xf k S6).1.length cs).ownBlock=ϊ b) wr)=>β5 (x.h.blk HW.o.bd hbd)
   clear hwx hll
   go_wp2_with fail
   refine QN (λb=>b=R∨(δ os (xf k S6).1.length cs).ownBlock=ϊ b) wr 7 8 [3,4,5,7] ?_
   refine Qs3 ?_
   (refine Ql ?_;intro K hK)
   refine(jK (HW.o.rd.more (qh.drewN _ 1))).mono ?_;rintro e w8 ⟨rfl,r8,a8⟩;have a8':qk (λb=>b=R∨(δ os (xf k S6).1.length cs).ownBlock=ϊ b) wr w8:=((qk.refl _ _).drewN _).trans (a8.mono λb h=>ϐ h);refine⟨_,rfl,qn a8',hK _ _ ?_⟩;clear hK K
   (refine Ql ?_;intro K hK)
   have a9:=a8'.more (qh.alloc w8 (.cells #[ω (num (tkB (xf k S6).2.1 4))] 38));refine⟨qn a9,hK _ _ ?_⟩;clear hK K;have J8:=(HW.o.on (qh.drewN wr 1)).step (s':=tkS (xf k S6).2 4) r8 a8;have J9:=J8.on (qh.alloc w8 (.cells #[ω (num (tkB (xf k S6).2.1 4))] 38))
   (refine jY rfl rfl ?_;intro K hK)
   refine ZM (.tmp 54) (.tmp 57) 61 rfl (hi+1) 38 i0 (ω 0) 4 underlying61 hi' hz0 hz1 hz2 rfl (δ os (xf k S6).1.length cs) .u32 (xf k S6).1 rfl J9.rs (δ (ϊ ⟨w8.heap.size,0,ϋ⟩) 1 1) [num (tkB (xf k S6).2.1 4)] rfl (SlI.of_owns (World.ownsRow_lit (e:=38) (size:=1) (base:=w8.heap.size) w8 #[ω (num (tkB (xf k S6).2.1 4))] 1 (ϕ _) (by unfold maxLen;omega) rfl) η) (by rw[HLL.o];simp;omega) ζ (by have:=qq J9.bd;omega) ?_;intro v10 w10 ho10 hg10 hb10;have a10:qk (λb=>b=R∨(δ os (xf k S6).1.length cs).ownBlock=ϊ b) wr w10:=a9.trans ⟨hg10.os,hg10.tape,hg10.output,hg10.size,λk hk hs=>hg10.block k hk (λe=>hs (ϓ e.symm))⟩;have J10:=κ (J9.grow rfl rfl ho10 hg10);have q5:w10.cell? ⟨hi,5,ϋ⟩=ϊ (δ os (xf k S6).1.length cs):=by
    have:w10.heap[hi]? =_:=(hg10.block hi (qq J9.bd) (λe=>by have:=jP J9.rs e.symm;omega)).trans J9.bd;exact qi this 5 rfl
   have z5:w10.frozen? ⟨hi,5,ϋ⟩=ύ:=by
    have:w10.heap[hi]? =_:=(hg10.block hi (qq J9.bd) (λe=>by have:=jP J9.rs e.symm;omega)).trans J9.bd;exact ql this 5
   obtain⟨o10,n10,c10,rfl,hz8,hz9⟩:=jc ho10;clear hz8 hz9 ho10 hg10 hb10;refine⟨qn a10,hK _ _ ?_⟩;clear hK K;go_simp
   iterate 1 (refine qz rfl rfl (qn a10) ?_;intro K hK;go_big_quiet_op;go_big_quiet_on)
   (refine Qe ?_;intro K hK)
   refine hK _ _ ?_;clear hK K;refine qD ?_;go_wp2;go_roundw
   case rel=>exact⟨k+1,τ,by go_num,_,J10.o⟩
   case measure=>simp[intOf];omega
  ·obtain rfl:k=NS:=by omega
   have hki: ¬(k:Int)<(k:Int):=by omega
   clear hwx HC hk hlt;obtain⟨hx1,hx2,hx3⟩:=HX0.o;have hw:=HW.o;rw[<-hx1] at hw;obtain⟨S7,hS7⟩:=ν ((xf k S6).2);rw[hS7] at hw hx2 hx3;have b7:=hw.rd.byt;have u7:=XJ (s:=S7) b7 2 ζ;have u8:=XJ (s:=tkS S7 2) (b7.drop _) 2 ζ;unfold gE at hx2;obtain⟨N7,hN7⟩: ∃x,num (tkB S7.1 2)=x:=⟨_,rfl⟩;obtain⟨N8,hN8⟩: ∃x,num (tkB (tkS S7 2).1 2)=x:=⟨_,rfl⟩;have u7:0<=num (tkB S7.1 2)/\num (tkB S7.1 2)<65536:=u7;have u8:0<=num (tkB (tkS S7 2).1 2)/\num (tkB (tkS S7 2).1 2)<65536:=u8;rw[hN7] at hx2 u7;rw[hN8] at hx2 u8;obtain⟨u70,u71⟩:=u7;obtain⟨u80,u81⟩:=u8;have EN7:=κ hN7;have EN8:=κ hN8;have HB:=κ hw;have HX2:=κ hx2;have HX3:=κ hx3;clear hw hx1 hx2 hx3 hS7 HW HX0 b7 hN7 hN8 HNST;have x6:=β6 HB.o.bd;have z6:=ql HB.o.bd 6;have H1:Hid (HdS w (wr.setCell ⟨hi,6,ϋ⟩ (μ FH)) R hi w.heap.size hi S7 ⟨(decide (128<=g)),GM,sq,st,sc,L7,FH,0,[],[]⟩ vs (δ ϋ 0 0) (δ ϋ 0 0)):=κ (HB.o.scal 6 (μ FH) ⟨(decide (128<=g)),GM,sq,st,sc,L7,FH,0,[],[]⟩ rfl rfl rfl rfl)
   go_upto_if 66 with fail
   go_cut [] from 67 (λwx=> ∃ve,HdS w wx R hi w.heap.size hi S8 ⟨(decide (128<=g)),GM,sq,st,sc,L7,FH,P7,X7,[]⟩ vs ve (δ ϋ 0 0))
   case first=>
    cases FH with
    | false=>
     go_wp2;go_meet;obtain⟨e1,e2,e3⟩:=HX3.o η;rw[e1,e2,e3];exact⟨_,H1.o⟩
    | true=>
     go_wp2_with (first | (go_at_call 53;((with_reducible refine(xF H1.o.rd).mono ?_);rintro e wa ⟨rfl,ra,aa⟩;rw[EN7.o];have H2:=κ (H1.o.step (s':=tkS S7 2) ra aa);clear ra aa x6 z6;have x7:=β7 H2.o.bd;have z7:=ql H2.o.bd 7;have H3:Hid (HdS w (wa.setCell ⟨hi,7,ϋ⟩ (φ N7)) R hi w.heap.size hi (tkS S7 2) ⟨(decide (128<=g)),GM,sq,st,sc,L7,ό,N7,[],[]⟩ vs (δ ϋ 0 0) (δ ϋ 0 0)):=κ (H2.o.scal 7 (φ N7) ⟨(decide (128<=g)),GM,sq,st,sc,L7,ό,N7,[],[]⟩ rfl rfl rfl rfl))) | (go_at_call 53;((with_reducible refine(xF H3.o.rd).mono ?_);rintro e wb ⟨rfl,rb,ab⟩;rw[EN8.o];have H4:=κ (H3.o.step (s':=tkS (tkS S7 2) 2) rb ab);clear rb ab x7 z7)) | (go_at_call 56;(go_call Jz (4* N8) H4.o.rd as e we ⟨v8,rfl,o8,rc,ac⟩;have H5:=κ (H4.o.step (s':=tkS (tkS (tkS S7 2) 2) (4* N8)) rc ac);have O8:=κ (kV o8 (show hi+1<=wb.heap.size from by have:=qq H4.o.bd;omega));clear rc ac o8;have x8:=β8 H5.o.bd;have z8:=ql H5.o.bd 8;obtain⟨o8,n8,c8,rfl,-,-⟩:=jc O8.o)))
     go_meet;obtain⟨e1,e2,e3⟩:=HX2.o η;rw[e1,e2,e3];exact⟨_,H5.o.fill 8 (δ o8 n8 c8) (q':=⟨(decide (128<=g)),GM,sq,st,sc,L7,ό,N7,(tkB (tkS (tkS S7 2) 2).1 (4* N8)),[]⟩) rfl H5.o.rs O8.o H5.o.rp⟩
   case rest=>
    obtain⟨ve,hc⟩:=hcut;have HC:=κ hc;have hb8:=hc.rd.byt;have hl8:=hc.rd.small;have hsh:=hc.rd.shut;have HB8:=κ hb8;have HP:=κ (H9P.o hsh);clear hc H1 HB HX2 HX3 EN7 EN8 x6 z6 H9P hsh hb8
    go_upto_if 84 with (first | (go_at_call 57;(go_call zM HC.o.rd as e wd ⟨rfl,rfl⟩)) | (go_at_call 56;(go_call Jz (S8.1.length:Int) HC.o.rd as e we ⟨v9,rfl,o9,rd,ad⟩;rw[(UO S8.1 S8.2).1] at o9;rw[(UO S8.1 S8.2).2.1,(UO S8.1 S8.2).2.2] at rd;have H5:=κ (HC.o.step (s':=([],S8.2)) rd ad);have O9:=κ (kV o9 (show hi+1<=_ from by have:=qq HC.o.bd;omega));clear rd ad o9;have x9:=β9 H5.o.bd;have z9:=ql H5.o.bd 9;obtain⟨o9,n9,c9,rfl,hn9,-⟩:=jc O9.o;subst hn9;have H6:=κ (H5.o.fill 9 (δ o9 S8.1.length c9) (q':=⟨(decide (128<=g)),GM,sq,st,sc,L7,FH,P7,X7,S8.1⟩) rfl H5.o.rs H5.o.re O9.o))))
    go_cut [8,9] from 85 (λs8 s9 wx=> ∃vp,HdS w wx R hi w.heap.size hi S9 ⟨(decide (128<=g)),GM,sq,st,sc,L7,FH,P7,X7,L9⟩ vs ve vp)
    case first=>
     cases FP with
     | false=>
      go_wp2;go_meet;obtain⟨e1,e2⟩:=H9F.o η;rw[e1,e2];exact⟨_,H6.o⟩
     | true=>
      obtain⟨U,hU⟩:=ν ((za S8.1).2);have h9:=H9T.o η;rw[hU] at h9;have HU:=κ hU;have H9:=κ h9;clear h9 hU;cases U with
      | true=>
       go_wp2_with (go_at_call 58;(go_call ZC o9 c9 S8.1 (hi+1) _ H6.o.rp HB8.o hl8 as e wf ⟨⟨v10,rfl,o10⟩,rfl⟩;rw[HU.o];have O10:=κ o10;clear o10;obtain⟨o10,n10,c10,rfl,-,-⟩:=jc O10.o))
       go_meet;obtain⟨e1,e2⟩:=H9.o;rw[e1,e2,ϒ trivial];exact⟨_,H6.o.fill 9 (δ o10 n10 c10) (q':=⟨(decide (128<=g)),GM,sq,st,sc,L7,FH,P7,X7,(za S8.1).1⟩) rfl H6.o.rs H6.o.re O10.o⟩
      | false=>
       go_wp2_with (first | (go_at_call 58;(go_call ZC o9 c9 S8.1 (hi+1) _ H6.o.rp HB8.o hl8 as e wf ⟨⟨v10,rfl,o10⟩,rfl⟩;rw[HU.o];have O10:=κ o10;clear o10;obtain⟨o10,n10,c10,rfl,-,-⟩:=jc O10.o)) | (go_at_call 55;(go_call zN H6.o.rd 2 as e wg ⟨rfl,rg,ag⟩;have O11:=κ (xS O10.o ag (λk hk=>by have:=H6.o.n1;omega));have H7:=κ (H6.o.step (s':=wrS ([],S8.2) 2) rg ag);clear rg ag;have x9':=β9 H7.o.bd;have z9':=ql H7.o.bd 9)))
       go_meet;obtain⟨e1,e2⟩:=H9.o;rw[e1,e2,ώ η];exact⟨_,H7.o.fill 9 (δ o10 n10 c10) (q':=⟨(decide (128<=g)),GM,sq,st,sc,L7,FH,P7,X7,(za S8.1).1⟩) rfl H7.o.rs H7.o.re O11.o⟩
    case rest=>
     obtain⟨vp,hc⟩:=hcut;have HE:=κ hc;clear hc H6 H5 HC H9T H9F x9 z9 O9 HB8;obtain⟨hp1,hp2,hp3⟩:=HP.o;have hev:(if ¬S9.2=0 then S9.2 else if 0<S9.1.length then 4 else 0)=PE:=by
      rw[<-hp1,hp2];by_cases h0:S9.2=0<;>simp[h0]
     have HEV:=κ hev;have HP3:=κ hp3;clear hev hp1 hp2 hp3 HP;obtain⟨os,ns,cs,rfl,-,-⟩:=jc HE.o.rs;obtain⟨oe,ne,ce,rfl,-,-⟩:=jc HE.o.re;obtain⟨op,np,cp,rfl,-,-⟩:=jc HE.o.rp;obtain⟨y0,y1,y2,y3,y4,y5,y6,y7,y8,y9⟩:=Vw HE.o.bd
     dsimp only at y0 y1 y2 y3 y4 y5 y6 y7 y8 y9
     obtain⟨g0,g1,g2,g3,g4,g5,g6,g7,g8,g9⟩:=Vw HE.o.br;obtain⟨k0,k1,k2,k3,k4,k5,k6,k7,k8,k9⟩:=MU HE.o.br;by_cases h0:PE=0
     ·have hq:=HQ.o;rw[ϒ h0,<-HP3.o h0] at hq;have HQ2:=κ hq;clear hq HQ HP3;subst h0
      go_wp2_with (go_at_call 59;(go_call vF HE.o.rd as e wh ⟨rfl,rfl⟩;rw[HEV.o]))
      obtain⟨WF,hWF,mf,aw,r0,r1,r2,r3,r4,r5,r6,r7,r8,r9⟩:=GT HE.o.more (ϕ _) HE.o.br (μ (decide (128<=g))) (υ GM) (φ sq) (ω st) (ω sc) (δ os ns cs) (μ FH) (φ P7) (δ oe ne ce) (δ op np cp);clear g0 g1 g2 g3 g4 g5 g6 g7 g8 g9 k0 k1 k2 k3 k4 k5 k6 k7 k8 k9 y0 y1 y2 y3 y4 y5 y6 y7 y8 y9;rw[hWF];clear hWF
      (refine bodyPost_ret (v:= .tuple #[θ #[μ (decide (128<=g)),υ GM,φ sq,ω st,ω sc,δ os ns cs,FH,φ P7,δ oe ne ce,δ op np cp],ι 0]) ?rr2 rfl ?_;(case rr2=>(simp[results,results16,go_sem,r0,r1,r2,r3,r4,r5,r6,r7,r8,r9])))
      rw[<-HQ2.o]
      refine⟨δ os ns cs,δ oe ne ce,δ op np cp,rfl, ?_,mf,λb hb=>(by
       have:=HE.o.n0;have:=HE.o.n1;have:=HE.o.nR;have:=HE.o.n5;rcases hb with e | e | e
       ·have:=jP HE.o.rs e;omega
       ·have:=jP HE.o.re e;omega
       ·have:=jP HE.o.rp e;omega)⟩
      have:=HE.o.n1;have:=HE.o.nR;have:=HE.o.n5;exact⟨SlI.of_owns (xS HE.o.rs aw (λk hk=>by omega)) (gO HE.o.rs),SlI.of_owns (xS HE.o.re aw (λk hk=>by omega)) (gO HE.o.re),SlI.of_owns (xS HE.o.rp aw (λk hk=>by omega)) (gO HE.o.rp)⟩
     ·have hq:=HQ.o;rw[ώ h0] at hq;have HQ2:=κ hq;have h0b:(PE != 0)=ό:=by simpa using h0
      clear hq HQ HP3
      go_wp2_with (go_at_call 59;(go_call vF HE.o.rd as e wh ⟨rfl,rfl⟩;rw[HEV.o]))
      obtain⟨WF,hWF,mf,aw,r0,r1,r2,r3,r4,r5,r6,r7,r8,r9⟩:=GT HE.o.more (ϕ _) HE.o.br (μ ύ) (υ 0) (φ 0) (ω 0) (ω 0) (δ ϋ 0 0) (μ ύ) (φ 0) (δ ϋ 0 0) (δ ϋ 0 0);clear g0 g1 g2 g3 g4 g5 g6 g7 g8 g9 k0 k1 k2 k3 k4 k5 k6 k7 k8 k9 y0 y1 y2 y3 y4 y5 y6 y7 y8 y9;rw[hWF];clear hWF
      (refine bodyPost_ret (v:= .tuple #[Γc,ι PE]) ?rr3 rfl ?_;(case rr3=>(simp[results,results16,go_sem,r0,r1,r2,r3,r4,r5,r6,r7,r8,r9])))
      rw[<-HQ2.o];exact⟨δ ϋ 0 0,δ ϋ 0 0,δ ϋ 0 0,rfl,⟨SlI.nil _ _,SlI.nil _ _,SlI.nil _ _⟩,mf,Kt⟩
def Ux (v:Value) (b:List Int) (w:World) (sl:SlI .u8 w v b) (hb:Byt b) (hl: ¬(200:Int)<b.length):Calls prog 16 #[v] w (KX (jS b) w):=(QX v b w sl hb hl).mono λ_ _ h=>h.post
def LD (w:World) (R A room first:Nat) (c:List Value) (T:List (List Value)) (ac ad aa ab:Int) (css:List (List Value)) (h:qU 2 332 56 w R A room first (c::T) ac ad aa ab css):
  Calls prog 174 #[γ R] w λe w'=>e= .returned (.tuple #[θ c.toArray,ό])/\qh w w':=by
 have U:=κ h;have I:=h.ofHead;have J:c.toArray.size=2:=by simpa using I.1
 have ae:=h.fst;have ak:(first:Int)<(room:Int):=by have:=h.fst;omega
 have al:0<=(first:Int):=by omega
 have aj:(((c::T).length:Int)==0)=ύ:=by simp;omega
 have ag:(w.alloc (.cells Γs 56)).cell? ⟨R,2,ϋ⟩=ϊ (ι (c::T).length):=qi (qv h.ring _) 2 rfl;clear h
 go_enter func174,ntmps174
 go_wp2;obtain⟨W1,H⟩:=ν (w.alloc (.cells Γs 56));have O:Hid (qh w W1):=κ (by rw[<-H];exact qh.alloc _ _);have G:=κ (U.o.more O.o);have N:Hid (W1.heap[w.heap.size]? =ϊ (.cells Γs 56 (0,0))):=κ (by rw[<-H];exact qp w _);rw[H];clear H ag;have ah: ∀x:qu W1,x.w'.cell? ⟨R,0,ϋ⟩=ϊ (δ (ϊ ⟨A,0,ϋ⟩) room room):=λx=>x.cell (qq G.o.ring) (qi G.o.ring 0 rfl)
 have ai: ∀x:qu W1,x.w'.cell? ⟨R,1,ϋ⟩=ϊ (ι first):=λx=>x.cell (qq G.o.ring) (qi G.o.ring 1 rfl)
 have Y: ∀x:qu W1,x.w'.rangeAt A (first* 2) c:=λx=>by have:=(G.o.more x.h).range ae;rw[G.o.head] at this;exact this
 refine Qn W1 10 12 [10,11] ?_
 refine Qq9 ?_
 refine jg rfl rfl (qo ρ) 56 (.tmp 19) rfl A (first* 2) rfl c _ (λw' af=>by obtain⟨x,rfl⟩:=af;exact Y x) underlying56 rfl (by rw[I.1];kernel_rfl) ?_;intro K d;go_simp;refine d _ ?_;clear d K;refine yk rfl rfl ζ ?_;intro K d;refine jw 56 (.tmp 2) (.tmp 20) rfl w.heap.size 56 _ c.toArray rfl rfl (qr N.o 1) (by rw[J];kernel_rfl) (by rw[J];rfl) (all_oneCell_toArray I.2) ?_;refine⟨trivial, ?_⟩;go_simp;refine d _ _ ?_;clear d K
 (refine Qe ?_;intro K d)
 refine d _ _ ?_;clear d K;refine qD ?_;go_wp2;refine bodyPost_ret (v:= .tuple #[θ c.toArray,ό]) (yN results174 _ _ w.heap.size 56 c.toArray _ _ rfl rfl (xh (qr N.o 1) _) underlying56 rfl (by rw[J];kernel_rfl)) rfl ?_;exact⟨rfl,(xt _ _ _).to_more (O.o.dr 1) (λk e=>by rw[e];exact ϕ _)⟩
end Go.Proofs.YtlmllmonabafjaaGreatDoor
