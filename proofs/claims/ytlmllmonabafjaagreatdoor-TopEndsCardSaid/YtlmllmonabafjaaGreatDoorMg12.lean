/- Contracts of the functions that the law reaches, and plain laws; no conditions but those written at each. -/
import Derived.Test.YtlmllmonabafjaaGreatDoorMg11
import Derived.Deep.WholeRow
namespace Go.Proofs.YtlmllmonabafjaaGreatDoor
open Go.Value renaming bool->μ,slice->δ,pointer->π,agg->θ
open Go.IntKind renaming i64->ι,u8->υ,u16->φ,u32->ω,i32->χ,u64->ψ
open _root_.Go.Proofs.Tryz
set_option linter.unusedSimpArgs false
set_option maxHeartbeats 8000000
set_option linter.unusedVariables false
open Go.RowKit
set_option maxRecDepth 100000
theorem Jt {w:World} {b:Nat} {t:TypeId} {a0 G d a3 a4:Value} (h:w.heap[b]? =some (.cells #[a0,G,d,a3,a4] t (0,0))) (v0 v1 v2 v3 v4:Value):(((((w.setCell ⟨b,0,none⟩ v0).setCell ⟨b,1,none⟩ v1).setCell ⟨b,2,none⟩ v2).setCell ⟨b,3,none⟩ v3).setCell ⟨b,4,none⟩ v4).heap[b]? =some (.cells #[v0,v1,v2,v3,v4] t (0,0)):=by
 have h:=qB (cs':= #[v0,G,d,a3,a4]) (qp h 0 v0) rfl;have h:=qB (cs':= #[v0,v1,d,a3,a4]) (qp h 1 v1) rfl;have h:=qB (cs':= #[v0,v1,v2,a3,a4]) (qp h 2 v2) rfl;have h:=qB (cs':= #[v0,v1,v2,v3,a4]) (qp h 3 v3) rfl;exact qB (qp h 4 v4) rfl
theorem qg.st5 (w:World) (b:Nat) (v0 v1 v2 v3 v4:Value):qg (λk=>k=b) w (((((w.setCell ⟨b,0,none⟩ v0).setCell ⟨b,1,none⟩ v1).setCell ⟨b,2,none⟩ v2).setCell ⟨b,3,none⟩ v3).setCell ⟨b,4,none⟩ v4):=((((((qg.refl (λk=>k=b) w).cons 0 v0).cons 1 v1).cons 2 v2).cons 3 v3).cons 4 v4)
theorem kG {w:World} {b:Nat} {t:TypeId} {a0 d G a3 a4:Value} (h:w.heap[b]? =some (.cells #[a0,d,G,a3,a4] t (0,0))):
  w.cell? ⟨b,0,none⟩=some a0/\w.cell? ⟨b,1,none⟩=some d/\w.cell? ⟨b,2,none⟩=some G/\w.cell? ⟨b,3,none⟩=some a3/\w.cell? ⟨b,4,none⟩=some a4:=
 ⟨qb h 0 rfl,qb h 1 rfl,qb h 2 rfl,qb h 3 rfl,qb h 4 rfl⟩
theorem Ws {w:World} {b:Nat} {cs:Array Value} {t:TypeId} (h:w.heap[b]? =some (.cells cs t (0,0))):
  w.frozen? ⟨b,0,none⟩=false/\w.frozen? ⟨b,1,none⟩=false/\w.frozen? ⟨b,2,none⟩=false/\w.frozen? ⟨b,3,none⟩=false/\w.frozen? ⟨b,4,none⟩=false:=
 ⟨qd h 0,qd h 1,qd h 2,qd h 3,qd h 4⟩
theorem Ju {S:Nat->Prop} {w w':World} {v:Value} {l:List (Int×Int)} (h:SlP 2 Vf w v l) (J: ∀b,v.ownBlock=some b-> ¬S b) (a:qg S w w'):SlP 2 Vf w' v l:=by
 obtain⟨aa,cap,rfl,G,H,I⟩:=h;refine⟨aa,cap,rfl,G,λi hi=> ?_,I⟩;obtain⟨b,ab,cs,rfl,d,U,N,Y⟩:=H i hi;exact⟨b,ab,cs,rfl,Nat.lt_of_lt_of_le d a.size,U,λj O=>by rw[a.cells b _ d (J b rfl)];exact N j O,Y⟩
structure MdJ (w0 w:World) (R Bm:Nat) (C:Nat->Prop) (o0 o1:Obj) (cs:Array Value) (s:RdS):Prop where
 rd:qu w R s.1 s.2 C
 b0:w.heap[w0.heap.size]? =some o0
 b1:w.heap[w0.heap.size+1]? =some o1
 bm:w.heap[Bm]? =some (.cells cs 283 (0,0))
 more:qa w0 w
 h1:w0.heap.size+1<Bm
 h2:Bm<R
 hC: ∀g,C g->Bm<g
section
variable {w0 w w':World} {R Bm:Nat} {C:Nat->Prop} {o0 o1:Obj} {cs:Array Value} {s s':RdS}
theorem MdJ.read (h:MdJ w0 w R Bm C o0 o1 cs s) (r:qu w' R s'.1 s'.2 C) (a:qg (λb=>b=R) w w'):MdJ w0 w' R Bm C o0 o1 cs s':=by
 have h1:=h.h1;have h2:=h.h2;exact⟨r,a.blk h.b0 τ,a.blk h.b1 τ,a.blk h.bm τ,Jv a h.more τ,h1,h2,h.hC⟩
theorem MdJ.set (h:MdJ w0 w R Bm C o0 o1 cs s) (i:Nat) (x:Value):MdJ w0 (w.setCell ⟨Bm,i,none⟩ x) R Bm C o0 o1 (cs.setIfInBounds i x) s:=by
 have h1:=h.h1;have h2:=h.h2;have a:qg (λb=>b=Bm) w (w.setCell ⟨Bm,i,none⟩ x):=(qg.refl (λb=>b=Bm) w).set (p:=⟨Bm,i,none⟩) rfl x;exact⟨h.rd.off a τ (λg d e=>by have:=h.hC g d;omega),a.blk h.b0 τ,a.blk h.b1 τ,qp h.bm i x,qg.to_more h.more a (λk G=>by omega),h1,h2,h.hC⟩
theorem MdJ.eq {cs':Array Value} (h:MdJ w0 w R Bm C o0 o1 cs s) (e:cs=cs'):MdJ w0 w R Bm C o0 o1 cs' s:=e▸h
end
theorem Er (a b:Int) (s:RdS):vD 1 a b s=vX ⟨1,a,b,[],[]⟩ s:=by unfold vD;rw[if_neg ζ,if_neg ζ]
theorem Eq (a b:Int) (s:RdS):vD 2 a b s=vX ⟨2,a,b,(jm s.1.length [] (zz b s)).1,[]⟩ (jm s.1.length [] (zz b s)).2:=by unfold vD;rw[if_pos rfl]
theorem Ep (a b:Int) (s:RdS):vD 3 a b s=vX ⟨3,a,b,[],(jc s.1.length [] (xK s)).1⟩ (jc s.1.length [] (xK s)).2:=by unfold vD;rw[if_neg ζ,if_pos rfl]
theorem Z3 (b:Int) (s:RdS):(zz b s).1.length<=s.1.length:=by
 unfold zz;split
 ·exact vH s 2
 ·exact Nat.le_refl _
theorem uK: ∀(n m:Nat) (acc:List (Int×Int)) (s:RdS),s.1.length<=n->n<=m->jm m acc s=jm n acc s
 | 0,m,acc,s,h,_=>by
  obtain⟨l,e⟩:=s;obtain rfl:l=[]:=List.eq_nil_of_length_eq_zero (by simpa using h);rw[zE];rfl
 | n+1,m,acc,s,h,hm=>by
  obtain⟨m,rfl⟩: ∃k,m=k+1:=⟨m-1,τ⟩;by_cases hs:s.1=[]
  ·obtain⟨l,e⟩:=s;simp only at hs;subst hs;rw[zE,zE]
  ·rw[yg hs,yg hs];exact uK n m _ _ (by have:=Xo hs;omega) τ
theorem Dt {w:World} (n t:Int) (B:List Int) (G:Option Addr) (d:Nat) (ad:Hid (SlI .u8 w (δ G B.length d) B)) (ae:B.length<=1000000) (aa:Hid (jx (n,t,B,())=false)):
  Calls prog 281 #[θ #[υ n,υ t,δ G B.length d]] w λe w'=>e= .returned (.tuple #[Γg,ι 1])/\qa w w':=by
 have ab:=κ (xR (w:=(w.alloc (.cells #[υ n,υ t,δ G B.length d] 291)).alloc (.cells Γg 283)) (n,t,B,()) (ad.o.keep ((qa.alloc _ _).al _)) ae);have Y:=κ (qC (w:=w.alloc (.cells #[υ n,υ t,δ G B.length d] 291)) (n:=w.heap.size+1) (o:=(.cells Γg 283)) η)
 go_enter func281,ntmps281
 go_wp2_with (go_at_call 260;(go_call ab.o as e U ⟨rfl,I⟩;rw[aa.o];have H:=κ (qc I Y.o);have ac:=κ (((qa.alloc w (.cells #[υ n,υ t,δ G B.length d] 291)).al (.cells Γg 283)).trans I);clear I;obtain⟨aq,ar,au,av,aw⟩:=kG H.o;obtain⟨ak,am,an,ao,ap⟩:=Ws H.o))
 have J:=Jt H.o (ι 0) (ω 0) (ω 0) (δ none 0 0) (δ none 0 0);have a5:=qg.st5 U (w.heap.size+1) (ι 0) (ω 0) (ω 0) (δ none 0 0) (δ none 0 0);have O:=qg.to_more ac.o a5 (λb e=>by omega);obtain⟨WF,N⟩:=ν ((((((U.setCell ⟨w.heap.size+1,0,none⟩ (ι 0)).setCell ⟨w.heap.size+1,1,none⟩ (ω 0)).setCell ⟨w.heap.size+1,2,none⟩ (ω 0)).setCell ⟨w.heap.size+1,3,none⟩ (δ none 0 0)).setCell ⟨w.heap.size+1,4,none⟩ (δ none 0 0)));rw[N] at J O ⊢ a5;clear N;obtain⟨af,ag,ah,ai,aj⟩:=kG J
 (refine bodyPost_ret (v:= .tuple #[Γg,ι 1]) ?rr1 rfl ?_;(case rr1=>(simp[results,results281,go_sem,af,ag,ah,ai,aj])))
 exact⟨rfl,O⟩
theorem KA {w:World} (n t:Int) (B:List Int) (G:Option Addr) (d:Nat) (ai:Hid (SlI .u8 w (δ G B.length d) B)) (aj:B.length<=1000000) (ae:Hid (jx (n,t,B,())=true)) (ad:Hid (zy (n,t,B,())=0)):
  Calls prog 281 #[θ #[υ n,υ t,δ G B.length d]] w λe w'=>e= .returned (.tuple #[Γg,ι 5])/\qa w w':=by
 have af:=κ (xR (w:=(w.alloc (.cells #[υ n,υ t,δ G B.length d] 291)).alloc (.cells Γg 283)) (n,t,B,()) (ai.o.keep ((qa.alloc _ _).al _)) aj);have aa:=κ (qs (qj w (.cells #[υ n,υ t,δ G B.length d] 291)) (.cells Γg 283));have ab:=κ (qC (w:=w.alloc (.cells #[υ n,υ t,δ G B.length d] 291)) (n:=w.heap.size+1) (o:=(.cells Γg 283)) η)
 go_enter func281,ntmps281
 go_wp2_with (first | (go_at_call 260;(go_call af.o as e aF ⟨rfl,H⟩;rw[ae.o];have I:=κ (qc H aa.o);have ac:=κ (qc H ab.o);have ag:=κ (((qa.alloc w (.cells #[υ n,υ t,δ G B.length d] 291)).al (.cells Γg 283)).trans H);clear H;have aq:=β0 I.o;have ar:=β1 I.o;have au:=β2 I.o)) | (go_at_call 306;(go_call XN n t B G d _ as e w4 ⟨rfl,N⟩;rw[ad.o];have J:=κ (qs (qc N ac.o) (.cells Γg 283));have ah:=κ ((ag.o.trans N).al (.cells Γg 283));clear N aq ar au;obtain⟨aA,aB,aC,aD,aE⟩:=kG J.o;obtain⟨av,aw,ax,ay,az⟩:=Ws J.o)))
 generalize w4.alloc (.cells Γg 283)=w5 at *;have O:=Jt J.o (ι 0) (ω 0) (ω 0) (δ none 0 0) (δ none 0 0);have a5:=qg.st5 w5 (w.heap.size+1) (ι 0) (ω 0) (ω 0) (δ none 0 0) (δ none 0 0);have Y:=qg.to_more ah.o a5 (λb e=>by omega);obtain⟨WF,U⟩:=ν ((((((w5.setCell ⟨w.heap.size+1,0,none⟩ (ι 0)).setCell ⟨w.heap.size+1,1,none⟩ (ω 0)).setCell ⟨w.heap.size+1,2,none⟩ (ω 0)).setCell ⟨w.heap.size+1,3,none⟩ (δ none 0 0)).setCell ⟨w.heap.size+1,4,none⟩ (δ none 0 0)));rw[U] at O Y ⊢ a5;clear U;obtain⟨ak,am,an,ao,ap⟩:=kG O
 (refine bodyPost_ret (v:= .tuple #[Γg,ι 5]) ?rr2 rfl ?_;(case rr2=>(simp[results,results281,go_sem,ak,am,an,ao,ap])))
 exact⟨rfl,Y⟩
theorem Cz {w:World} (n t k:Int) (bA:k=1∨k=2∨k=3) (B:List Int) (ai:Option Addr) (ad:Nat) (D:Msg×Int) (bp:Hid (SlI .u8 w (δ ai B.length ad) B)) (bf:Hid (Byt B)) (bB:B.length<=1000000) (bS:Hid (jx (n,t,B,())=true)) (bP:Hid (zy (n,t,B,())=k))
  (bg:Hid (vD k (xP (B,0)) (xP (tkS (B,0) 4)) (tkS (tkS (B,0) 4) 4)=D)):
  Calls prog 281 #[θ #[υ n,υ t,δ ai B.length ad]] w λe w'=>(∃va vl,e= .returned (.tuple #[θ #[ι D.1.kind,ω D.1.snd,ω D.1.med,va,vl],ι D.2])/\DG w' va vl D.1/\jX w va/\jX w vl)/\qa w w':=by
 have bj:=κ (xR (w:=(w.alloc (.cells #[υ n,υ t,δ ai B.length ad] 291)).alloc (.cells Γg 283)) (n,t,B,()) (bp.o.keep ((qa.alloc _ _).al _)) bB);have bb:=κ (qs (qj w (.cells #[υ n,υ t,δ ai B.length ad] 291)) (.cells Γg 283));have bc:=κ (qC (w:=w.alloc (.cells #[υ n,υ t,δ ai B.length ad] 291)) (n:=w.heap.size+1) (o:=(.cells Γg 283)) η);obtain⟨ak,aP⟩: ∃x,num (tkB B 4)=x:=⟨_,rfl⟩;obtain⟨G,aE⟩: ∃x,num (tkB (tkS (B,0) 4).1 4)=x:=⟨_,rfl⟩;obtain⟨d,aQ⟩: ∃x,tkS (tkS (B,0) 4) 4=x:=⟨_,rfl⟩;have bM:Hid (vD k ak G d=D):=κ (by rw[<-aP,<-aE,<-aQ];exact bg.o);have bh:=κ aP;have bi:=κ aE;have bk:=κ aQ;have cq:0<=G:=by
  have:=Jx (s:=tkS (B,0) 4) (jK (s:=(B,0)) bf.o 4);rw[<-aE];exact this.1
 clear aP aE aQ bg;have cp: ¬k=0:=by omega
 have bQ:=κ bA;clear bA
 go_enter func281,ntmps281
 go_upto_region 9 with (first | (go_at_call 260;(go_call bj.o as e cz ⟨rfl,aF⟩;rw[bS.o];have au:=κ (qc aF bb.o);have aH:=κ (qc aF bc.o);have bn:=κ (((qa.alloc w (.cells #[υ n,υ t,δ ai B.length ad] 291)).al (.cells Γg 283)).trans aF);clear aF;have ck:=β0 au.o;have cl:=β1 au.o;have ba:=β2 au.o)) | (go_at_call 306;(go_call XN n t B ai ad _ as e w4 ⟨rfl,ax⟩;rw[bP.o];have aG:=κ (qs (qc ax au.o) (.cells #[ι k,ω 0,ω 0,(),()] 283));have bd:=κ (qs (qc ax aH.o) (.cells #[ι k,ω 0,ω 0,(),()] 283));have aN:=κ ((bn.o.trans ax).al (.cells #[ι k,ω 0,ω 0,(),()] 283));have be:=κ (qj w4 (.cells #[ι k,ω 0,ω 0,(),()] 283));have bw:=κ (Nat.lt_of_lt_of_le (qn aH.o) ax.size);clear ax ck cl ba;have ba:=β2 aG.o)) | (go_at_call 51;(go_call km _ B _ (bp.o.keep aN.o) bf.o bB as e w6 ⟨R,rfl,bz,bG,ay⟩;have aL:Hid (MdJ w w6 R w4.heap.size (λg=>(w4.alloc (.cells #[ι k,ω 0,ω 0,(),()] 283)).heap.size<=g/\g<w6.heap.size) (.cells #[υ n,υ t,δ ai B.length ad] 291) (.cells Γg 283) #[ι k,ω 0,ω 0,(),()] (B,0)):=κ ⟨bG,qc ay aG.o,qc ay bd.o,qc ay be.o,aN.o.trans ay,bw.o,by (have:=bz;simp at this;omega),λg h=>by (have:=h.1;simp at this;omega)⟩;clear bz bG ay ba)) | (go_at_call 54;((with_reducible refine(jD aL.o.rd).mono ?_);rintro e cA ⟨rfl,bH,br⟩;rw[bh.o];have aC:=κ (aL.o.read (s':=tkS (B,0) 4) bH br);clear bH br;have cj:=β1 aC.o.bm;have cm:=qd aC.o.bm 1;have aM:=κ (aC.o.set 1 (ω ak)))) | (go_at_call 54;((with_reducible refine(jD aM.o.rd).mono ?_);rintro e w8 ⟨rfl,bI,bs⟩;rw[bi.o];have aD:=κ (aM.o.read (s':=tkS (tkS (B,0) 4) 4) bI bs);clear bI bs cj cm;have aU:=β2 aD.o.bm;have cn:=qd aD.o.bm 2;have H:=κ ((aD.o.set 2 (ω G)).eq (cs':= #[ι k,ω ak,ω G,(),()]) rfl);have bE:=β0 H.o.bm)))
 rw[bk.o] at H;generalize ch:(λg=>(w4.alloc (.cells #[ι k,ω 0,ω 0,(),()] 283)).heap.size<=g/\g<w6.heap.size)=C at *;clear ch bb bc au aH bn aG bd aN be aL aC aM aD bj bh bi bk aU cn bw;generalize w4.heap.size=Bm at *;generalize w8.setCell ⟨Bm,2,none⟩ (ω G)=w9 at *;have bE:=β0 H.o.bm
 go_upto_block 0 with fail
 go_cut [] from 27 to 62 (λar=> ∃(ah aj:Option Addr) (af ag ac ae:Nat) (S:RdS) (m:Msg),MdJ w ar R Bm C (.cells #[υ n,υ t,δ ai B.length ad] 291) (.cells Γg 283) #[ι k,ω ak,ω G,δ ah af ac,δ aj ag ae] S/\vD k ak G d=vX m S/\(m.kind=k/\m.snd=ak/\m.med=G)/\DG ar (δ ah af ac) (δ aj ag ae) m/\(jX w (δ ah af ac)/\jX w (δ aj ag ae))/\ ∀b,((δ ah af ac).ownBlock=some b∨(δ aj ag ae).ownBlock=some b)-> ¬b=w.heap.size+1)
 case first=>
  rcases bQ.o with rfl | rfl | rfl
  ·go_wp2;go_meet;exact⟨_,_,_,_,_,_,d,_,H.o,Er _ _ _,⟨rfl,rfl,rfl⟩,⟨SlP.nil _ _ _,SlI.nil _ _⟩,⟨jX.nil w,jX.nil w⟩,λb h=>by rcases h with h | h<;>cases h⟩
  ·have aU:=β2 H.o.bm
   go_upto_region 11 with fail
   obtain⟨Q,bx⟩: ∃Q:Bool,Q=decide (¬G=0∨d.1.length=0∨ ¬d.1.length%8=0):=⟨_,rfl⟩;have ao:=κ bx;clear bx
   go_cut [44] from 31 to 43 (λv ar=>v= μ Q/\w9=ar)
   case first=>
    by_cases c1:G=0
    ·have bm:(G != 0)=false:=by simpa using c1
     by_cases c2:d.1.length=0
     ·have bV:((d.1.length:Int)==0)=true:=eqB τ;have U:Hid (true=Q):=κ (by rw[ao.o];exact(decide_eq_true (Or.inr (Or.inl c2))).symm);clear c1 c2
      go_wp2_with (go_at_call 57;(go_call yd H.o.rd as e w10 ⟨rfl,rfl⟩))
      go_meet;rw[<-U.o];exact⟨rfl,rfl⟩
     ·have bV:((d.1.length:Int)==0)=false:=neB τ;by_cases c3:d.1.length%8=0
      ·have bW:((d.1.length:Int)%8 != 0)=false:=by simp;omega
       have U:Hid (false=Q):=κ (by rw[ao.o];exact(decide_eq_false (by rintro(h | h | h);exact h c1;exact c2 h;exact h c3)).symm);clear c1 c2 c3
       go_wp2_with (go_at_call 57;(go_call yd H.o.rd as e w10 ⟨rfl,rfl⟩))
       go_meet;rw[<-U.o];exact⟨rfl,rfl⟩
      ·have bW:((d.1.length:Int)%8 != 0)=true:=by simp;omega
       have U:Hid (true=Q):=κ (by rw[ao.o];exact(decide_eq_true (Or.inr (Or.inr c3))).symm);clear c1 c2 c3
       go_wp2_with (go_at_call 57;(go_call yd H.o.rd as e w10 ⟨rfl,rfl⟩))
       go_meet;rw[<-U.o];exact⟨rfl,rfl⟩
    ·have bm:(G != 0)=true:=by simpa using c1
     have U:Hid (true=Q):=κ (by rw[ao.o];exact(decide_eq_true (Or.inl c1)).symm);clear c1
     go_wp2_with (go_at_call 57;(go_call yd H.o.rd as e w10 ⟨rfl,rfl⟩))
     go_meet;rw[<-U.o];exact⟨rfl,rfl⟩
   case rest=>
   obtain⟨rfl,rfl⟩:=hcut
   go_upto_if 44 with fail
   go_cut [] from 45 to 46 (λar=>MdJ w ar R Bm C (.cells #[υ n,υ t,δ ai B.length ad] 291) (.cells Γg 283) #[ι 2,ω ak,ω G,(),()] (zz G d))
   case first=>
    have bT:=κ (zo (s:=d) H.o.rd 2);cases Q with
    | true=>
     have U:Hid (zz G d=wrS d 2):=κ (by unfold zz;rw[if_pos (of_decide_eq_true ao.o.symm)])
     go_wp2_with (first | (go_at_call 55;(go_call bT.o as e cy ⟨rfl,bF,bq⟩;have bU:=κ (H.o.read (s':=wrS d 2) bF bq);clear bF bq)))
     go_meet;rw[U.o];exact bU.o
    | false=>
     have U:Hid (zz G d=d):=κ (by unfold zz;rw[if_neg (of_decide_eq_false ao.o.symm)]);go_wp2;go_meet;rw[U.o];exact H.o
   case rest=>
   have aq:=κ hcut;clear hcut H aU ao;have bR:=κ (Z3 G d);have ci:R<wc.heap.size:=by obtain⟨v,aO,_⟩:=aq.o.rd.blk;exact qn aO
   go_wp2_with (go_at_call 307;(go_call Y7 (s0:=zz G d) aq.o.rd ci as e aA ⟨v12,rfl,aa⟩;have ab:=κ aa;have ap:=κ (aq.o.read (s':=(jm (zz G d).1.length [] (zz G d)).2) (aa.rd.mono (λg h=>h.1)) aa.away);obtain⟨O,N,J,rfl,aS,aT⟩:=aa.row.shape;clear aS aT aa;have cw:=β3 ap.o.bm;have z3:=qd ap.o.bm 3;have I:=κ ((ap.o.set 3 (δ O N J)).eq (cs':= #[ι 2,ω ak,ω G,δ O N J,()]) rfl)))
   have aK:Hid (SlP 2 Vf (aA.setCell ⟨Bm,3,none⟩ (δ O N J)) (δ O N J) (jm (zz G d).1.length [] (zz G d)).1):=κ (Ju (ab.o.row.sl ζ) (λb Y e=>by have:=ab.o.row.ge Y;have:=qn aq.o.bm;omega) ((qg.refl (λb=>b=Bm) aA).set (p:=⟨Bm,3,none⟩) rfl _));have aJ:Hid (∀b,(δ O N J).ownBlock=some b-> ¬b=w.heap.size+1):=κ (λb Y e=>by have:=ab.o.row.ge Y;have:=qn aq.o.b1;omega);have aI:Hid (jX w (δ O N J)):=κ (λb Y=>by have:=ab.o.row.ge Y;have:=qn aq.o.b1;omega);have bO:=κ (uK (zz G d).1.length d.1.length [] (zz G d) (Nat.le_refl _) bR.o);go_meet;exact⟨_,_,_,_,_,_,_,_,I.o,(by rw[Eq,bO.o]),⟨rfl,rfl,rfl⟩,⟨aK.o,SlI.nil _ _⟩,⟨aI.o,jX.nil w⟩,λb h=>by rcases h with h | h;exact aJ.o b h;cases h⟩
  ·go_wp2_with (go_at_call 308;(go_call Y6 (s0:=d) H.o.rd (by obtain⟨v,aO,_⟩:=H.o.rd.blk;exact qn aO) as e aA ⟨v12,rfl,aa⟩;have ab:=κ aa;have ap:=κ (H.o.read (s':=(jc d.1.length [] (xK d)).2) (aa.rd.mono (λg h=>h.1)) aa.away);obtain⟨O,N,J,rfl,aS,aT⟩:=qT aa.row;clear aS aT aa;have cx:=β4 ap.o.bm;have z4:=qd ap.o.bm 4;have I:=κ ((ap.o.set 4 (δ O N J)).eq (cs':= #[ι 3,ω ak,ω G,(),δ O N J]) rfl)))
   have aK:Hid (SlI .u16 (aA.setCell ⟨Bm,4,none⟩ (δ O N J)) (δ O N J) (jc d.1.length [] (xK d)).1):=κ (SlI.off (SlI.of_owns ab.o.row (Ma ab.o.row)) (λb Y e=>by have:=jG ab.o.row Y;have:=qn H.o.bm;omega) ((qg.refl (λb=>b=Bm) aA).set (p:=⟨Bm,4,none⟩) rfl _));have aJ:Hid (∀b,(δ O N J).ownBlock=some b-> ¬b=w.heap.size+1):=κ (λb Y e=>by have:=jG ab.o.row Y;have:=qn H.o.b1;omega);have aI:Hid (jX w (δ O N J)):=κ (λb Y=>by have:=jG ab.o.row Y;have:=qn H.o.b1;omega);go_meet;exact⟨_,_,_,_,_,_,_,_,I.o,(by rw[Ep]),⟨rfl,rfl,rfl⟩,⟨SlP.nil _ _ _,aK.o⟩,⟨jX.nil w,aI.o⟩,λb h=>by rcases h with h | h;cases h;exact aJ.o b h⟩
 case rest=>
 obtain⟨ah,aj,af,ag,ac,ae,S,m,bD,bt,⟨rfl,rfl,rfl⟩,bJ,⟨bu,bv⟩,bC⟩:=hcut;have I:=κ bD;have bo:=κ bJ;have bK:=κ bu;have bL:=κ bv;have bl:=κ bC;have am:=bM.o;rw[bt] at am;unfold vX at am;clear bD bt bJ bu bv bC H bE;by_cases he:wM S=0
 ·rw[if_pos he] at am;have an:=κ am;have bN:=κ he;obtain⟨cr,ct,p2,cu,cv⟩:=kG I.o.bm;obtain⟨cc,cd,ce,cf,cg⟩:=kG I.o.b1;obtain⟨bX,bY,bZ,ca,cb⟩:=Ws I.o.b1;clear am he
  go_wp2_with (go_at_call 59;(go_call JD (s:=S) I.o.rd as e aB ⟨rfl,aR⟩;subst aR;rw[bN.o]))
  have av:=Jt I.o.b1 (ι m.kind) (ω m.snd) (ω m.med) (δ ah af ac) (δ aj ag ae);have a5:=qg.st5 aB (w.heap.size+1) (ι m.kind) (ω m.snd) (ω m.med) (δ ah af ac) (δ aj ag ae);have az:=qg.to_more I.o.more a5 (λb e=>by omega);obtain⟨WF,aw⟩:=ν ((((((aB.setCell ⟨w.heap.size+1,0,none⟩ (ι m.kind)).setCell ⟨w.heap.size+1,1,none⟩ (ω m.snd)).setCell ⟨w.heap.size+1,2,none⟩ (ω m.med)).setCell ⟨w.heap.size+1,3,none⟩ (δ ah af ac)).setCell ⟨w.heap.size+1,4,none⟩ (δ aj ag ae)));rw[aw] at av az ⊢ a5;clear aw;obtain⟨aV,aW,aX,aY,aZ⟩:=kG av
  (refine bodyPost_ret (v:= .tuple #[θ #[ι m.kind,ω m.snd,ω m.med,δ ah af ac,δ aj ag ae],ι 0]) ?rr3 rfl ?_;(case rr3=>(simp[results,results281,go_sem,aV,aW,aX,aY,aZ])))
  refine⟨⟨δ ah af ac,δ aj ag ae,by first | (rw[<-an.o];done) | (rw[<-an.o];rfl), ?_⟩,az⟩;rw[<-an.o];exact⟨⟨Ju bo.o.asks (λb h=>bl.o b (Or.inl h)) a5,SlI.off bo.o.lost (λb h=>bl.o b (Or.inr h)) a5⟩,bK.o,bL.o⟩
 ·rw[if_neg he] at am;have an:=κ am;have co:(wM S != 0)=true:=by simpa using he
  obtain⟨cc,cd,ce,cf,cg⟩:=kG I.o.b1;obtain⟨bX,bY,bZ,ca,cb⟩:=Ws I.o.b1;clear am he
  go_wp2_with (go_at_call 59;(go_call JD (s:=S) I.o.rd as e aB ⟨rfl,aR⟩;subst aR))
  have av:=Jt I.o.b1 (ι 0) (ω 0) (ω 0) (δ none 0 0) (δ none 0 0);have a5:=qg.st5 aB (w.heap.size+1) (ι 0) (ω 0) (ω 0) (δ none 0 0) (δ none 0 0);have az:=qg.to_more I.o.more a5 (λb e=>by omega);obtain⟨WF,aw⟩:=ν ((((((aB.setCell ⟨w.heap.size+1,0,none⟩ (ι 0)).setCell ⟨w.heap.size+1,1,none⟩ (ω 0)).setCell ⟨w.heap.size+1,2,none⟩ (ω 0)).setCell ⟨w.heap.size+1,3,none⟩ (δ none 0 0)).setCell ⟨w.heap.size+1,4,none⟩ (δ none 0 0)));rw[aw] at av az ⊢ a5;clear aw;obtain⟨aV,aW,aX,aY,aZ⟩:=kG av
  (refine bodyPost_ret (v:= .tuple #[Γg,ι (wM S)]) ?rr4 rfl ?_;(case rr4=>(simp[results,results281,go_sem,aV,aW,aX,aY,aZ])))
  refine⟨⟨δ none 0 0,δ none 0 0,by first | (rw[<-an.o];done) | (rw[<-an.o];rfl), ?_⟩,az⟩;rw[<-an.o];exact⟨⟨SlP.nil _ _ _,SlI.nil _ _⟩,jX.nil w,jX.nil w⟩
theorem Wd {w:World} {vb:Value} (c:qQ) (O:SlI .u8 w vb c.2.2.1) (Y:xk c) (J:c.2.2.1.length<=1000000):
  Calls prog 281 #[θ #[υ c.1,υ c.2.1,vb]] w λe w'=>(∃va vl,e= .returned (.tuple #[θ #[ι (qJ c).1.kind,ω (qJ c).1.snd,ω (qJ c).1.med,va,vl],ι (qJ c).2])/\DG w' va vl (qJ c).1/\jX w va/\jX w vl)/\qa w w':=by
 obtain⟨n,t,B,⟨⟩⟩:=c;obtain⟨_,_,U⟩:=Y;simp only at *;have d:=κ O;obtain⟨N,G,rfl,_⟩:=O;cases hr:jx (n,t,B,()) with
 | false=>
  have e:qJ (n,t,B,())=(JI,1):=by unfold qJ;rw[if_pos hr]
  rw[e];exact(Dt n t B N G d J (κ hr)).mono λe w' ⟨H,I⟩=>⟨⟨_,_,H,⟨SlP.nil _ _ _,SlI.nil _ _⟩,jX.nil w,jX.nil w⟩,I⟩
 | true=>
  by_cases h0:zy (n,t,B,())=0
  ·have e:qJ (n,t,B,())=(JI,5):=by unfold qJ;rw[if_neg (by rw[hr];simp),if_pos h0]
   rw[e];exact(KA n t B N G d J (κ hr) (κ h0)).mono λe w' ⟨H,I⟩=>⟨⟨_,_,H,⟨SlP.nil _ _ _,SlI.nil _ _⟩,jX.nil w,jX.nil w⟩,I⟩
  ·have e:qJ (n,t,B,())=vD (zy (n,t,B,())) (xP (B,0)) (xP (tkS (B,0) 4)) (tkS (tkS (B,0) 4) 4):=by unfold qJ;rw[if_neg (by rw[hr];simp),if_neg h0]
   rw[e];exact Cz n t _ (UP h0).2 B N G _ d (κ U) J (κ hr) (κ rfl) (κ rfl)
section
open Go.RowKit Go.Lib
structure Gq (w:World) (vb va vl vo:Value) (x:Itm):Prop where
 bl:SlP 7 Yj w vb x.rep.bl
 ms:DG w va vl x.msg
 bo:SlI .u8 w vo x.oth.2.2.1
def Hx (x:Itm) (vb va vl vo:Value):List Value:=[.int .i64 x.kind,.bool x.rep.snd,.int .u32 x.rep.src,.int .u32 x.rep.inf.sec,.int .u32 x.rep.inf.frac,.int .u32 x.rep.inf.stamp,.int .u32 x.rep.inf.pkts,.int .u32 x.rep.inf.octs,vb,.int .i64 x.msg.kind,.int .u32 x.msg.snd,.int .u32 x.msg.med,va,vl,.int .u8 x.oth.1,.int .u8 x.oth.2.1,vo]
def Qk:qL Itm:=λw cs x=> ∃vb va vl vo,cs=Hx x vb va vl vo/\Gq w vb va vl vo x/\Wu x
theorem Y0 {w w':World} {b o:Nat} {cs:List Value} (h:w.rangeAt b o cs) (m:qa w w') (d:b<w.heap.size):w'.rangeAt b o cs:=λj v G=>by
 rw[m.cells b _ d];exact h j v G
theorem jU {P:Program} {ops:Array Oper} {rest:List Oper} {o:Oper} {a:Act} {w:World} {Q:Exit->Act->World->Prop} (N:o.guard=none) (G:TypeId) (x y:Operand) (O:o.op= .store G x y)
  (H:World) (c d:Array Value) (Y:w=H.alloc (.cells c G)) (aa:a.eval x= γ H.heap.size) (ab:a.eval y= θ d)
  (hi:(P.info? G).map (·.size)=some d.size) (U:c.size=d.size) (I:d.all (·.oneCell')=true)
  (h:wpList P ops Q rest (a.put o.dst undef) (H.alloc (.cells d G))):wpList P ops Q (o::rest) a w:=by
 subst Y;refine wpList_plain N λK J=> ?_
 unfold Oper.wp execOp;simp only[O,aa,ab,Sem.run_bind,Sem.run_pure,Result.andThen_ok,run_storeAt_new H G c d hi U I];exact J _ _ h
theorem Mf {w:World} {v:Value} {l:List Itm} (h:SlP 17 Qk w v l): ∃N cap,v= δ N l.length cap/\(l.length:Int)<=9223372036854775807/\(∀i,i<l.length-> ∃b ab O G U H Y I aa J,N=some ⟨b,ab,none⟩/\b<w.heap.size/\
  w.rangeAt b (ab+i* 17) (Hx (l.getD i wL) (δ O (l.getD i wL).rep.bl.length G) (δ U (l.getD i wL).msg.asks.length H) (δ Y (l.getD i wL).msg.lost.length I) (δ aa (l.getD i wL).oth.2.2.1.length J))/\
  Gq w (δ O (l.getD i wL).rep.bl.length G) (δ U (l.getD i wL).msg.asks.length H) (δ Y (l.getD i wL).msg.lost.length I) (δ aa (l.getD i wL).oth.2.2.1.length J) (l.getD i wL))/\ ∀x∈l,Wu x:=by
 obtain⟨N,cap,ae,af,ag,ak⟩:=id h;refine⟨N,cap,ae,af,λi hi=> ?_,Ei h (λcs y ⟨_,_,_,_,_,_,k⟩=>k)⟩;obtain⟨b,ab,cs,e,ah,am,ai,vb,an,ao,vo,rfl,d,al⟩:=ag i hi;have ad:l.getD i wL=l[i]:=by simp[hi]
 rw[ad];generalize l[i]=x at *;obtain⟨O,G,rfl,_⟩:=id d.bl;obtain⟨U,H,rfl,_⟩:=id d.ms.asks;obtain⟨Y,I,rfl,_⟩:=id d.ms.lost;obtain⟨aa,J,rfl,_⟩:=id d.bo;refine⟨b,ab,O,G,U,H,Y,I,aa,J,e,ah,λj v ac=> ?_,d⟩;have aj:j<17:=(List.getElem?_eq_some_iff.1 ac).1;rw[ai j aj];exact ac
theorem JC {w:World} {b:Nat} {t:TypeId} {a0 d Y a3 a4 a5 aa ab ac a9 G H I J N O U:Value} (h:w.heap[b]? =some (.cells #[a0,d,Y,a3,a4,a5,aa,ab,ac,a9,G,H,I,J,N,O,U] t (0,0))):
  (w.cell? ⟨b,0,none⟩=some a0/\w.cell? ⟨b,1,none⟩=some d/\w.cell? ⟨b,2,none⟩=some Y/\w.cell? ⟨b,3,none⟩=some a3/\w.cell? ⟨b,4,none⟩=some a4/\w.cell? ⟨b,5,none⟩=some a5/\w.cell? ⟨b,6,none⟩=some aa/\w.cell? ⟨b,7,none⟩=some ab/\w.cell? ⟨b,8,none⟩=some ac)/\
  (w.cell? ⟨b,9,none⟩=some a9/\w.cell? ⟨b,10,none⟩=some G/\w.cell? ⟨b,11,none⟩=some H/\w.cell? ⟨b,12,none⟩=some I/\w.cell? ⟨b,13,none⟩=some J)/\(w.cell? ⟨b,14,none⟩=some N/\w.cell? ⟨b,15,none⟩=some O/\w.cell? ⟨b,16,none⟩=some U):=
 ⟨⟨qb h 0 rfl,qb h 1 rfl,qb h 2 rfl,qb h 3 rfl,qb h 4 rfl,qb h 5 rfl,qb h 6 rfl,qb h 7 rfl,qb h 8 rfl⟩,⟨qb h 9 rfl,qb h 10 rfl,qb h 11 rfl,qb h 12 rfl,qb h 13 rfl⟩,qb h 14 rfl,qb h 15 rfl,qb h 16 rfl⟩
end
section
open Go.RowKit Go.Lib
structure CY (x:Itm):Prop where
 bl:x.rep.bl.length<=100000
 asks:x.msg.asks.length<=100000
 lost:x.msg.lost.length<=100000
 oth:x.oth.2.2.1.length<=1000000
end
section
open Go.RowKit Go.Lib
theorem PR {l:List Int} {j:Nat} (h:j<l.length):l.drop j=l.getD j 0::l.drop (j+1):=by
 rw[List.drop_eq_getElem_cons h,List.getD_eq_getElem?_getD,List.getElem?_eq_getElem h,Option.getD_some]
theorem gh (l:List Int) (v:Value) (w:World) (aa:SlI .i64 w v l):
  Calls prog 242 #[v] w λe w'=>e= .returned (ι (vg l))/\w=w':=by
 obtain⟨ag,cap,rfl,ae,J,_⟩:=aa;have U:=κ J;clear J
 go_enter func242,ntmps242
 go_wp2
 go_loop [7] (λH=> ∃j:Nat,j<=l.length/\H= ι j/\vg l=vg (l.drop j)) (λH=>l.length-(intOf H).toNat)
 case atStart=>exact⟨0,τ,rfl,rfl⟩
 case round=>
  obtain⟨j,ad,rfl,N⟩:=hrel;have d:=κ N;clear N;by_cases hlt:j<l.length
  ·obtain⟨b,ah,rfl,ab,ac⟩:=U.o j hlt;have I:=κ (PR hlt);have af:(j:Int)<(l.length:Int):=by omega
   generalize l.getD j 0=x at *;by_cases hx:x=0
   ·have Y:(x != 0)=false:=by simp[hx]
    have G:=κ hx;clear hx;go_wp2
    go_round
    case rel=>exact⟨j+1,τ,by go_num,by rw[d.o,I.o];show (if x=0 then _ else _)=_;rw[if_pos G.o]⟩
    case measure=>simp[intOf];omega
   ·have Y:(x != 0)=true:=by simp[hx]
    have G:=κ hx;clear hx;go_wp2;go_ret;exact⟨by rw[d.o,I.o];show _=Ending.returned (ι (if x=0 then _ else _));rw[if_neg G.o];rfl,rfl⟩
  ·obtain rfl:j=l.length:=by omega
   have O:Hid (vg l=0):=κ (by rw[d.o,List.drop_length];rfl);go_wp2;go_ret;exact⟨by rw[O.o];rfl,rfl⟩
def Ww (w:World) (v vo:Value):Prop:=jX w v∨v=vo
theorem SlI.off2 {k:IntKind} {D:Nat->Prop} {w w':World} {v:Value} {l:List Int} (h:SlI k w v l) (H:l≠[]-> ∀b,v.ownBlock=some b-> ¬D b) (a:qg D w w'):SlI k w' v l:=by
 by_cases e:l=[]
 ·subst e;obtain⟨I,cap,rfl,d,J,G⟩:=h;exact⟨I,cap,rfl,d,λi hi=>by simp at hi,G⟩
 ·exact h.off (H e) a
theorem SlI.old {k:IntKind} {w:World} {v:Value} {l:List Int} (h:SlI k w v l) (H:l≠[]) {b:Nat} (d:v.ownBlock=some b):b<w.heap.size:=by
 obtain⟨U,cap,rfl,N,G,O⟩:=h;obtain⟨J,Y,rfl,I,_⟩:=G 0 (List.length_pos_iff.2 H);injection d with d
 subst d;exact I
end
section
open Go.RowKit Go.Lib
theorem wG: ∀(n:Nat) (acc:List (Int×Int)) (s:RdS),s.1.length<=n->(jm n acc s).1.length<=acc.length+s.1.length
 | 0,acc,s,_=>Nat.le_add_right _ _
 | n+1,acc,s,h=>by
  by_cases hs:s.1=[]
  ·obtain⟨l,e⟩:=s;simp only at hs;subst hs;rw[zE];exact Nat.le_add_right _ _
  ·rw[yg hs];have G:=Xo hs;have d:=wG n (acc++[(wu s).1]) (wu s).2 τ;rw[List.length_append,List.length_singleton] at d;omega
theorem wF: ∀(n:Nat) (acc:List Int) (s:RdS),s.1.length<=n->(jc n acc s).1.length<=acc.length+17* s.1.length
 | 0,acc,s,_=>Nat.le_add_right _ _
 | n+1,acc,s,h=>by
  by_cases hs:s.1=[]
  ·obtain⟨l,e⟩:=s;simp only at hs;subst hs;rw[wE];exact Nat.le_add_right _ _
  ·rw[uJ hs];have G:=WK hs;have I:=VD acc (prS s).1 (prS s).2;have d:=wF n (acc++prN (prS s).1) (gm acc (prS s).1 (prS s).2) τ;have H:=(WM (prS s).1).2;rw[List.length_append] at d;omega
theorem Ps (s:RdS):(xK s).1.length<=s.1.length:=by
 unfold xK;split
 ·exact vH s 2
 ·exact Nat.le_refl _
theorem Kg {c:qQ} (h:c.2.2.1.length<=400):(qJ c).1.asks.length<=100000/\(qJ c).1.lost.length<=100000:=by
 have H: ∀(m:Msg) (s:RdS),m.asks.length<=100000/\m.lost.length<=100000->(vX m s).1.asks.length<=100000/\(vX m s).1.lost.length<=100000:=by
  intro m s h;unfold vX;split
  ·exact h
  ·exact⟨Nat.zero_le _,Nat.zero_le _⟩
 have I:(tkS (tkS (c.2.2.1,0) 4) 4).1.length<=400:=Nat.le_trans (uN _ _) (Nat.le_trans (uN _ _) h);unfold qJ;split
 ·exact⟨Nat.zero_le _,Nat.zero_le _⟩
 ·split
  ·exact⟨Nat.zero_le _,Nat.zero_le _⟩
  ·unfold vD;generalize tkS (tkS (c.2.2.1,0) 4) 4=s at *;split
   ·have d:=Z3 (xP (tkS (c.2.2.1,0) 4)) s;have G:=wG s.1.length [] (zz (xP (tkS (c.2.2.1,0) 4)) s) d;exact H _ _ ⟨by simp only[List.length_nil] at G ⊢;omega,Nat.zero_le _⟩
   ·split
    ·have d:=Ps s;have G:=wF s.1.length [] (xK s) d;exact H _ _ ⟨Nat.zero_le _,by simp only[List.length_nil] at G ⊢;omega⟩
    ·exact H _ _ ⟨Nat.zero_le _,Nat.zero_le _⟩
end
section
open Go.RowKit Go.Lib
theorem je.other {α:Type} {n:Nat} {R:qL α} {D D':Nat->Prop} {w:World} {base e:Nat} {v:Value} {L:List α} (h:je n R D w base e v L) (k: ∀b,D' b->D b∨w.heap.size<=b):je n R D' w base e v L:=by
 obtain⟨⟨xs,G,H⟩,I⟩:=id h;refine⟨⟨xs,G,λi hi=>(H i hi).other λb d=> ?_⟩,λb d J=> ?_⟩
 ·rcases d with d | d
  ·exact(k b d).elim (λx=>Or.inl (Or.inl x)) Or.inr
  ·exact Or.inl (Or.inr d)
 ·rcases k b J with x | x
  ·exact I b d x
  ·have:=h.lt d;omega
theorem je.beside {α:Type} {n:Nat} {R:qL α} {w w':World} {base e:Nat} {v u G:Value} {L:List α} (h:je n R (λb=>u.ownBlock=some b) w base e v L) (g:w.grownBy w' u.ownBlock) (N:G.ownBlock=u.ownBlock∨G.ownBlock=some w.heap.size):je n R (λb=>G.ownBlock=some b) w' base e v L:=by
 have H:=h.other (D':=λb=>u.ownBlock=some b∨w.heap.size<=b) (λb d=>d);have a:qg (λb=>u.ownBlock=some b∨w.heap.size<=b) w w':=⟨g.os,g.tape,g.output,g.size,λk I J=>g.block k I (λe=>J (Or.inl e.symm))⟩;refine(H.step a).other λb d=>Or.inl ?_
 rcases N with e | e
 ·exact Or.inl (by rw[<-e];exact d)
 ·rw[e] at d;injection d with d;exact Or.inr τ
theorem Dd {D:Nat->Prop} {w:World} {d:Value} {c:qQ} (s:SlI .u8 w d c.2.2.1) (H:xk c) (G:c.2.2.1≠[]-> ∀g,d.ownBlock=some g-> ¬D g):jw yH D w [υ c.1,υ c.2.1,d] c:=
 λ_ a=>VU (s.off2 G a) H
theorem xl {w:World} {base e size n:Nat} {v:Value} {xs:List Value} (h:w.ownsRow base e size v n xs): ∃oa cap,v= δ oa n cap:=by
 rcases h.2 with ⟨rfl,d⟩ | ⟨g,cap,cur,rfl,_⟩
 ·exact⟨none,0,by rw[d]⟩
 ·exact⟨_,cap,rfl⟩
structure ChJ (w wr:World) (u v:Value) (A:List qQ) (E:List Int):Prop where
 row:je 3 yH (λb=>v.ownBlock=some b) wr w.heap.size 291 u A
 errs:wr.ownsRow w.heap.size 29 1 v E.length (E.map (Value.int .i64))
 more:qa w wr
theorem ChJ.on {w wr w':World} {u v:Value} {A:List qQ} {E:List Int} (h:ChJ w wr u v A E) (m:qa wr w'):ChJ w w' u v A E:=⟨h.row.on m,jE h.errs m,h.more.trans m⟩
theorem ChJ.put {w wr w':World} {u v d:Value} {A A':List qQ} {E:List Int} (h:ChJ w wr u v A E) (I:je 3 yH (λb=>v.ownBlock=some b) w' w.heap.size 291 d A') (g:wr.grownBy w' u.ownBlock):ChJ w w' d v A' E:=
 ⟨I,XB h.errs g (λb G e=>h.row.apart b e G),Below.grown h.more g h.more.size (λk H=>h.row.ge H)⟩
theorem ChJ.err {w wr w':World} {u v v':Value} {A:List qQ} {E E':List Int} (h:ChJ w wr u v A E) (G:w'.ownsRow w.heap.size 29 1 v' E'.length (E'.map (Value.int .i64))) (g:wr.grownBy w' v.ownBlock) (H:v'.ownBlock=v.ownBlock∨v'.ownBlock=some wr.heap.size):ChJ w w' u v' A E':=
 ⟨h.row.beside g H,G,Below.grown h.more g h.more.size (λk d=>jG h.errs d)⟩
end
section
open Go.RowKit Go.Lib
theorem If {w:World} {g e:Nat} {cur:Array Value} (h:w.heap[g]? =some (.cells cur e (0,0))) (cs:Array Value):(w.setRow g cs).heap[g]? =some (.cells cs e (0,0)):=setRow_heap w g cur cs e (0,0) h
theorem En (w:World) (g:Nat) (cs:Array Value):qg (λk=>k=g) w (w.setRow g cs):=by
 refine⟨rfl,rfl,rfl,by simp[World.setRow],λb G d=> ?_⟩;unfold World.setRow;simp only;rw[Array.getElem?_modify,if_neg (λe=>d e.symm)]
theorem zr {P:Program} {ops:Array Oper} {rest:List Oper} {o:Oper} {a:Act} {w:World} {Q:Exit->Act->World->Prop} (N:o.guard=none) (G:TypeId) (x y:Operand) (O:o.op= .store G x y)
  (g:Nat) (t:TypeId) (c d:Array Value) (J:w.heap[g]? =some (.cells c t (0,0))) (Y:a.eval x= γ g) (aa:a.eval y= θ d)
  (hi:(P.info? G).map (·.size)=some d.size) (U:c.size=d.size) (H:d.all (·.oneCell')=true)
  (h:wpList P ops Q rest (a.put o.dst undef) (w.setRow g d)):wpList P ops Q (o::rest) a w:=by
 refine wpList_plain N λK I=> ?_
 unfold Oper.wp execOp;simp only[O,Y,aa,Instr.storeAt,Instr.sureAddr,Sem.run_bind,Sem.run_pure,Result.andThen_ok,run_storeVar_row w g t G c d J hi U H];exact I _ _ h
theorem vR {P:Program} {H:Func} {p q:Tmp} {d:TypeId} (h:H.results= #[.cell p d,.tmp q]) (tmps:Array Value) (w:World) (g:Nat) (t:TypeId) (cs:Array Value) (G:TypeDesc) (v2:Value)
  (N:tmps.getD p undef= γ g) (U:tmps.getD q undef=v2) (J:w.heap[g]? =some (.cells cs t (0,0)))
  (aa:P.underlying d=some G) (I:(match G with | .struct _ | .array _ _=>true | _=>false)=true) (hi:(P.info? d).map (·.size)=some cs.size):
  (results H tmps).run P w= .ok (.tuple #[θ cs,v2]) w:=by
 have O:tmps[p]?.getD undef= γ g:=by simpa using N
 have Y:tmps[q]?.getD undef=v2:=by simpa using U
 simp[results,h,O,Y,asAddr,run_loadVar_row w g t d cs (0,0) G J aa I hi]
theorem DL {w:World} {B t:Nat} {cs:Array Value} (h:w.heap[B]? =some (.cells cs t (0,0))) (cs':Array Value): ∃W,w.setRow B cs'=W/\W.heap[B]? =some (.cells cs' t (0,0))/\qg (λb=>b=B) w W:=⟨_,rfl,If h cs',En _ _ _⟩
theorem XO (c:qQ) (U:Option Addr) (N:Nat) (w:World) (s:SlI .u8 w (δ U c.2.2.1.length N) c.2.2.1) (ae:xk c) (av:c.2.2.1.length<=400) (aa:c.2.1=200∨c.2.1=201):
  Calls prog 241 #[θ #[υ c.1,υ c.2.1,δ U c.2.2.1.length N]] w λe w'=>(∃vb va vl vo,e= .returned (.tuple #[θ #[ι (qv c).1.kind,μ (qv c).1.rep.snd,ω (qv c).1.rep.src,ω (qv c).1.rep.inf.sec,ω (qv c).1.rep.inf.frac,ω (qv c).1.rep.inf.stamp,ω (qv c).1.rep.inf.pkts,ω (qv c).1.rep.inf.octs,vb,ι (qv c).1.msg.kind,ω (qv c).1.msg.snd,ω (qv c).1.msg.med,va,vl,υ (qv c).1.oth.1,υ (qv c).1.oth.2.1,vo],ι (qv c).2])/\Gq w' vb va vl vo (qv c).1/\jX w vb/\jX w va/\jX w vl/\Ww w vo (δ U c.2.2.1.length N))/\qa w w':=by
 have S:=κ s;have ah:=κ ae;have ap:c.2.2.1.length<=1000000:=by omega
 obtain⟨J,O⟩:=ν ((w.alloc (.cells #[υ c.1,υ c.2.1,δ U c.2.2.1.length N] 291)).alloc (.cells Γf 293));have Y:Hid (qa w J):=κ (by rw[<-O];exact(qa.alloc _ _).al _);have ab:Hid (J.heap[w.heap.size+1]? =some (.cells Γf 293 (0,0))):=κ (by rw[<-O];exact qC η);have I:=κ O;clear s ae O;have ag:Hid (qv c=(⟨1,(qG c).1,JI,Gj⟩,(qG c).2)):=κ (by unfold qv;rw[if_pos aa]);rw[ag.o];have ai:=κ (We (w:=J) c (S.o.keep Y.o) ah.o ap);have H:(c.2.1==200)=true∨((c.2.1==200)=false/\(c.2.1==201)=true):=by
  rcases aa with h | h
  ·exact Or.inl (by rw[h];rfl)
  ·exact Or.inr ⟨by rw[h];rfl,by rw[h];rfl⟩
 clear aa;rcases H with b1 | ⟨b1,b2⟩
 all_goals
  go_enter func241,ntmps241
  go_wp2_with (first | (go_at_call 280;(go_call (I.o▸ai.o) as e w1 ⟨⟨vb,rfl,s1,af⟩,m⟩;have am:=κ s1;have ak:=κ af;obtain⟨G,d,rfl,_⟩:=s1;have aj:=κ (Y.o.trans (I.o▸m));have ac:=κ (qs (qc (I.o▸m) ab.o) (.cells #[μ (qG c).1.snd,ω (qG c).1.src,ω (qG c).1.inf.sec,ω (qG c).1.inf.frac,ω (qG c).1.inf.stamp,ω (qG c).1.inf.pkts,ω (qG c).1.inf.octs,δ G (qG c).1.bl.length d] 289));clear m af)) | (refine jU rfl 289 (.tmp 4) (.tmp 19) rfl w1 _ #[μ (qG c).1.snd,ω (qG c).1.src,ω (qG c).1.inf.sec,ω (qG c).1.inf.frac,ω (qG c).1.inf.stamp,ω (qG c).1.inf.pkts,ω (qG c).1.inf.octs,δ G (qG c).1.bl.length d] rfl rfl rfl ξ rfl rfl ?_) | (refine wpList_load_row rfl 289 (.tmp 4) rfl w1.heap.size rfl _ #[μ (qG c).1.snd,ω (qG c).1.src,ω (qG c).1.inf.sec,ω (qG c).1.inf.frac,ω (qG c).1.inf.stamp,ω (qG c).1.inf.pkts,ω (qG c).1.inf.octs,δ G (qG c).1.bl.length d] _ _ (heap_alloc_new w1 _) underlying289 rfl ξ ?_) | (refine zr rfl 293 (.tmp 2) (.tmp 22) rfl (w.heap.size+1) _ _ #[ι 1,μ (qG c).1.snd,ω (qG c).1.src,ω (qG c).1.inf.sec,ω (qG c).1.inf.frac,ω (qG c).1.inf.stamp,ω (qG c).1.inf.pkts,ω (qG c).1.inf.octs,δ G (qG c).1.bl.length d,ι 0,ω 0,ω 0,(),(),υ 0,υ 0,()] ac.o rfl rfl ξ rfl (all_oneCell_toArray (by simp[Value.oneCell'])) ?_))
  obtain⟨WF,ao,an,a3⟩:=DL ac.o #[ι 1,μ (qG c).1.snd,ω (qG c).1.src,ω (qG c).1.inf.sec,ω (qG c).1.inf.frac,ω (qG c).1.inf.stamp,ω (qG c).1.inf.pkts,ω (qG c).1.inf.octs,δ G (qG c).1.bl.length d,ι 0,ω 0,ω 0,(),(),υ 0,υ 0,()];rw[ao];have aq:=qg.to_more (aj.o.al _) a3 (λb e=>by omega);have ad:jX J (δ G (qG c).1.bl.length d):=by rw[<-I.o];exact ak.o
  have au:SlP 7 Yj WF (δ G (qG c).1.bl.length d) (qG c).1.bl:=Yv (am.o.keep Ca (qa.alloc _ _)) (λb H (e:b=w.heap.size+1)=>by have:=ad b H;have:=qn ab.o;omega) a3;have ar:jX w (δ G (qG c).1.bl.length d):=λb H=>by have:=ad b H;have:=Y.o.size;omega
  refine bodyPost_ret (v:= .tuple #[θ #[ι 1,μ (qG c).1.snd,ω (qG c).1.src,ω (qG c).1.inf.sec,ω (qG c).1.inf.frac,ω (qG c).1.inf.stamp,ω (qG c).1.inf.pkts,ω (qG c).1.inf.octs,δ G (qG c).1.bl.length d,ι 0,ω 0,ω 0,(),(),υ 0,υ 0,()],ι (qG c).2]) (vR results241 _ _ (w.heap.size+1) _ _ _ _ rfl rfl an underlying293 rfl ξ) rfl ?_;exact⟨⟨_,_,_,_,rfl,⟨au,⟨SlP.nil _ _ _,SlI.nil _ _⟩,SlI.nil _ _⟩,ar,jX.nil w,jX.nil w,Or.inl (jX.nil w)⟩,aq⟩
theorem Wh (c:qQ) (U:Option Addr) (N:Nat) (w:World) (s:SlI .u8 w (δ U c.2.2.1.length N) c.2.2.1) (aA:xk c) (aB:c.2.2.1.length<=400) (ad: ¬c.2.1=200) (ae: ¬c.2.1=201):
  Calls prog 241 #[θ #[υ c.1,υ c.2.1,δ U c.2.2.1.length N]] w λe w'=>(∃vb ah ai vo,e= .returned (.tuple #[θ #[ι (qv c).1.kind,μ (qv c).1.rep.snd,ω (qv c).1.rep.src,ω (qv c).1.rep.inf.sec,ω (qv c).1.rep.inf.frac,ω (qv c).1.rep.inf.stamp,ω (qv c).1.rep.inf.pkts,ω (qv c).1.rep.inf.octs,vb,ι (qv c).1.msg.kind,ω (qv c).1.msg.snd,ω (qv c).1.msg.med,ah,ai,υ (qv c).1.oth.1,υ (qv c).1.oth.2.1,vo],ι (qv c).2])/\Gq w' vb ah ai vo (qv c).1/\jX w vb/\jX w ah/\jX w ai/\Ww w vo (δ U c.2.2.1.length N))/\qa w w':=by
 have S:=κ s;have aC:=κ aA;have aE:c.2.2.1.length<=1000000:=by omega
 obtain⟨aa,af⟩:=ν ((w.alloc (.cells #[υ c.1,υ c.2.1,δ U c.2.2.1.length N] 291)).alloc (.cells Γf 293));have ac:Hid (qa w aa):=κ (by rw[<-af];exact(qa.alloc _ _).al _);have az:Hid (aa.heap[w.heap.size]? =some (.cells #[υ c.1,υ c.2.1,δ U c.2.2.1.length N] 291 (0,0))):=κ (by rw[<-af];exact qs (qj w _) _);have aj:Hid (aa.heap[w.heap.size+1]? =some (.cells Γf 293 (0,0))):=κ (by rw[<-af];exact qC η);have J:=κ af;clear s aA af;have aK:(c.2.1==200)=false:=beq_eq_false_iff_ne.2 ad;have aL:(c.2.1==201)=false:=beq_eq_false_iff_ne.2 ae;have aw:=κ (Wd (w:=aa) c (S.o.keep ac.o) aC.o aE);by_cases h5:(qJ c).2=5
 ·have am:Hid (qv c=(⟨3,Qh,JI,c⟩,0)):=κ (by unfold qv;rw[if_neg (λe=>e.elim ad ae),if_pos h5]);rw[am.o];have aD:((qJ c).2==5)=true:=by rw[h5];rfl
  clear ad ae h5
  go_enter func241,ntmps241
  go_wp2_with (first | (go_at_call 281;(go_call (J.o▸aw.o) as e w1 ⟨⟨ah,ai,rfl,s1,ag,n2⟩,m⟩;have an:=κ s1;have ax:=κ ag;have ay:=κ n2;obtain⟨⟨H,d,rfl,_⟩,⟨I,G,rfl,_⟩⟩:=id s1;have ak:=κ (ac.o.trans (J.o▸m));have ab:=κ (qs (qc (J.o▸m) aj.o) (.cells #[ι (qJ c).1.kind,ω (qJ c).1.snd,ω (qJ c).1.med,δ H (qJ c).1.asks.length d,δ I (qJ c).1.lost.length G] 283));have Y:=κ (qs (qc (J.o▸m) az.o) (.cells #[ι (qJ c).1.kind,ω (qJ c).1.snd,ω (qJ c).1.med,δ H (qJ c).1.asks.length d,δ I (qJ c).1.lost.length G] 283));have aH:=β0 Y.o;have aI:=β1 Y.o;have aJ:=β2 Y.o;clear m ag n2 s1)) | (refine jU rfl 283 (.tmp 6) (.tmp 27) rfl w1 _ #[ι (qJ c).1.kind,ω (qJ c).1.snd,ω (qJ c).1.med,δ H (qJ c).1.asks.length d,δ I (qJ c).1.lost.length G] rfl rfl rfl ξ rfl rfl ?_) | (refine zr rfl 293 (.tmp 2) (.tmp 32) rfl (w.heap.size+1) _ _ #[ι 3,false,ω 0,ω 0,ω 0,ω 0,ω 0,ω 0,(),ι 0,ω 0,ω 0,(),(),υ c.1,υ c.2.1,δ U c.2.2.1.length N] ab.o rfl rfl ξ rfl (all_oneCell_toArray (by simp[Value.oneCell'])) ?_))
  obtain⟨WF,ap,ao,a3⟩:=DL ab.o #[ι 3,false,ω 0,ω 0,ω 0,ω 0,ω 0,ω 0,(),ι 0,ω 0,ω 0,(),(),υ c.1,υ c.2.1,δ U c.2.2.1.length N];rw[ap];have aq:=qg.to_more (ak.o.al _) a3 (λb e=>by omega);have ar:SlI .u8 WF (δ U c.2.2.1.length N) c.2.2.1:=SlI.off2 (S.o.keep (ak.o.al _)) (λaB b O (e:b=w.heap.size+1)=>by have:=S.o.old aB O;omega) a3;refine bodyPost_ret (v:= .tuple #[θ #[ι 3,false,ω 0,ω 0,ω 0,ω 0,ω 0,ω 0,(),ι 0,ω 0,ω 0,(),(),υ c.1,υ c.2.1,δ U c.2.2.1.length N],ι 0]) (vR results241 _ _ (w.heap.size+1) _ _ _ _ rfl rfl ao underlying293 rfl ξ) rfl ?_;exact⟨⟨_,_,_,_,rfl,⟨SlP.nil _ _ _,⟨SlP.nil _ _ _,SlI.nil _ _⟩,ar⟩,jX.nil w,jX.nil w,jX.nil w,Or.inr rfl⟩,aq⟩
 ·have am:Hid (qv c=(⟨2,Qh,(qJ c).1,Gj⟩,(qJ c).2)):=κ (by unfold qv;rw[if_neg (λe=>e.elim ad ae),if_neg h5]);rw[am.o];have aD:((qJ c).2==5)=false:=beq_eq_false_iff_ne.2 h5;clear ad ae h5
  go_enter func241,ntmps241
  go_wp2_with (first | (go_at_call 281;(go_call (J.o▸aw.o) as e w1 ⟨⟨ah,ai,rfl,s1,ag,n2⟩,m⟩;have an:=κ s1;have ax:=κ ag;have ay:=κ n2;obtain⟨⟨H,d,rfl,_⟩,⟨I,G,rfl,_⟩⟩:=id s1;have ak:=κ (ac.o.trans (J.o▸m));have ab:=κ (qs (qc (J.o▸m) aj.o) (.cells #[ι (qJ c).1.kind,ω (qJ c).1.snd,ω (qJ c).1.med,δ H (qJ c).1.asks.length d,δ I (qJ c).1.lost.length G] 283));have Y:=κ (qs (qc (J.o▸m) az.o) (.cells #[ι (qJ c).1.kind,ω (qJ c).1.snd,ω (qJ c).1.med,δ H (qJ c).1.asks.length d,δ I (qJ c).1.lost.length G] 283));have aH:=β0 Y.o;have aI:=β1 Y.o;have aJ:=β2 Y.o;clear m ag n2 s1)) | (refine jU rfl 283 (.tmp 6) (.tmp 27) rfl w1 _ #[ι (qJ c).1.kind,ω (qJ c).1.snd,ω (qJ c).1.med,δ H (qJ c).1.asks.length d,δ I (qJ c).1.lost.length G] rfl rfl rfl ξ rfl rfl ?_) | (refine wpList_load_row rfl 283 (.tmp 6) rfl w1.heap.size rfl _ #[ι (qJ c).1.kind,ω (qJ c).1.snd,ω (qJ c).1.med,δ H (qJ c).1.asks.length d,δ I (qJ c).1.lost.length G] _ _ (heap_alloc_new w1 _) underlying283 rfl ξ ?_) | (refine zr rfl 293 (.tmp 2) (.tmp 34) rfl (w.heap.size+1) _ _ #[ι 2,false,ω 0,ω 0,ω 0,ω 0,ω 0,ω 0,(),ι (qJ c).1.kind,ω (qJ c).1.snd,ω (qJ c).1.med,δ H (qJ c).1.asks.length d,δ I (qJ c).1.lost.length G,υ 0,υ 0,()] ab.o rfl rfl ξ rfl (all_oneCell_toArray (by simp[Value.oneCell'])) ?_))
  obtain⟨WF,ap,ao,a3⟩:=DL ab.o #[ι 2,false,ω 0,ω 0,ω 0,ω 0,ω 0,ω 0,(),ι (qJ c).1.kind,ω (qJ c).1.snd,ω (qJ c).1.med,δ H (qJ c).1.asks.length d,δ I (qJ c).1.lost.length G,υ 0,υ 0,()];rw[ap];have aq:=qg.to_more (ak.o.al _) a3 (λb e=>by omega);have au:jX aa (δ H (qJ c).1.asks.length d):=by rw[<-J.o];exact ax.o
  have av:jX aa (δ I (qJ c).1.lost.length G):=by rw[<-J.o];exact ay.o
  have ar:DG WF (δ H (qJ c).1.asks.length d) (δ I (qJ c).1.lost.length G) (qJ c).1:=⟨Ju (an.o.asks.keep Cb (qa.alloc _ _)) (λb O (e:b=w.heap.size+1)=>by have:=au b O;have:=qn aj.o;omega) a3,SlI.off (an.o.lost.keep (qa.alloc _ _)) (λb O (e:b=w.heap.size+1)=>by have:=av b O;have:=qn aj.o;omega) a3⟩;have aF:jX w (δ H (qJ c).1.asks.length d):=λb O=>by have:=au b O;have:=ac.o.size;omega
  have aG:jX w (δ I (qJ c).1.lost.length G):=λb O=>by have:=av b O;have:=ac.o.size;omega
  refine bodyPost_ret (v:= .tuple #[θ #[ι 2,false,ω 0,ω 0,ω 0,ω 0,ω 0,ω 0,(),ι (qJ c).1.kind,ω (qJ c).1.snd,ω (qJ c).1.med,δ H (qJ c).1.asks.length d,δ I (qJ c).1.lost.length G,υ 0,υ 0,()],ι (qJ c).2]) (vR results241 _ _ (w.heap.size+1) _ _ _ _ rfl rfl ao underlying293 rfl ξ) rfl ?_;exact⟨⟨_,_,_,_,rfl,⟨SlP.nil _ _ _,ar,SlI.nil _ _⟩,jX.nil w,aF,aG,Or.inl (jX.nil w)⟩,aq⟩
theorem Wi (c:qQ) (G:Option Addr) (d:Nat) (w:World) (s:SlI .u8 w (δ G c.2.2.1.length d) c.2.2.1) (H:xk c) (I:c.2.2.1.length<=400):
  Calls prog 241 #[θ #[υ c.1,υ c.2.1,δ G c.2.2.1.length d]] w λe w'=>(∃vb va vl vo,e= .returned (.tuple #[θ #[ι (qv c).1.kind,μ (qv c).1.rep.snd,ω (qv c).1.rep.src,ω (qv c).1.rep.inf.sec,ω (qv c).1.rep.inf.frac,ω (qv c).1.rep.inf.stamp,ω (qv c).1.rep.inf.pkts,ω (qv c).1.rep.inf.octs,vb,ι (qv c).1.msg.kind,ω (qv c).1.msg.snd,ω (qv c).1.msg.med,va,vl,υ (qv c).1.oth.1,υ (qv c).1.oth.2.1,vo],ι (qv c).2])/\Gq w' vb va vl vo (qv c).1/\jX w vb/\jX w va/\jX w vl/\Ww w vo (δ G c.2.2.1.length d))/\qa w w':=by
 by_cases h1:c.2.1=200
 ·exact XO c G d w s H I (Or.inl h1)
 ·by_cases h2:c.2.1=201
  ·exact XO c G d w s H I (Or.inr h2)
  ·exact Wh c G d w s H I h1 h2
end
section
open Go.RowKit Go.Lib
theorem Fg {D:Nat->Prop} {w:World} {vb d G vo:Value} {x:Itm} (s:Gq w vb d G vo x) (O:Wu x) (I: ∀g,vb.ownBlock=some g-> ¬D g) (H: ∀g,d.ownBlock=some g-> ¬D g) (J: ∀g,G.ownBlock=some g-> ¬D g) (N:x.oth.2.2.1≠[]-> ∀g,vo.ownBlock=some g-> ¬D g):jw Qk D w (Hx x vb d G vo) x:=
 λ_ a=>⟨vb,d,G,vo,rfl,⟨Yv s.bl I a,⟨Ju s.ms.asks H a,s.ms.lost.off J a⟩,s.bo.off2 N a⟩,O⟩
theorem Cd {c:qQ} (d:xk c):Wu (qv c).1:=by
 unfold qv;split
 ·exact⟨Bf d,gC,WQ⟩
 split
 ·exact⟨WJ,gC,d⟩
 ·exact⟨WJ,Bg d,WQ⟩
theorem Xa {k:List qQ} (h:szC k<=200) (i:Nat) (hi:i<k.length):(k.getD i xu).2.2.1.length<=400/\k.length<=200:=by
 have H:(k.getD i xu).2.2.1.length+4<=szC k:=by
  have:=JZ k i hi;have:=DX k (i+1);omega
 have d: ∀j,j<=k.length->j<=szC (k.take j):=by
  intro j
  induction j with
  | zero=>intro _;omega
  | succ j ih=>
   intro I;have:=JZ k j τ;have:=ih τ;omega
 have G:=d k.length (Nat.le_refl _);rw[List.take_length] at G;omega
structure ItJ (w wr:World) (u v:Value) (A:List Itm) (E:List Int):Prop where
 row:je 17 Qk (λb=>v.ownBlock=some b) wr w.heap.size 293 u A
 errs:wr.ownsRow w.heap.size 29 1 v E.length (E.map (Value.int .i64))
 more:qa w wr
theorem ItJ.on {w wr w':World} {u v:Value} {A:List Itm} {E:List Int} (h:ItJ w wr u v A E) (m:qa wr w'):ItJ w w' u v A E:=⟨h.row.on m,jE h.errs m,h.more.trans m⟩
theorem ItJ.put {w wr w':World} {u v d:Value} {A A':List Itm} {E:List Int} (h:ItJ w wr u v A E) (I:je 17 Qk (λb=>v.ownBlock=some b) w' w.heap.size 293 d A') (g:wr.grownBy w' u.ownBlock):ItJ w w' d v A' E:=
 ⟨I,XB h.errs g (λb G e=>h.row.apart b e G),Below.grown h.more g h.more.size (λk H=>h.row.ge H)⟩
theorem ItJ.err {w wr w':World} {u v v':Value} {A:List Itm} {E E':List Int} (h:ItJ w wr u v A E) (G:w'.ownsRow w.heap.size 29 1 v' E'.length (E'.map (Value.int .i64))) (g:wr.grownBy w' v.ownBlock) (H:v'.ownBlock=v.ownBlock∨v'.ownBlock=some wr.heap.size):ItJ w w' u v' A E':=
 ⟨h.row.beside g H,G,Below.grown h.more g h.more.size (λk d=>jG h.errs d)⟩
theorem wi {w wr G:World} {u v x:Value} {A:List Itm} {E:List Int} (h:ItJ w wr u v A E) (J:wr.heap.size<=G.heap.size) (f:jX G x): ∀g,x.ownBlock=some g-> ¬(v.ownBlock=some g∨u.ownBlock=some g):=by
 intro g H d;have I:=f g H;rcases d with d | d
 ·have:=gB h.errs d;omega
 ·have:=h.row.lt d;omega
theorem US {w wr Y:World} {u v:Value} {N O:Option Addr} {U J:Nat} {A:List Itm} {E:List Int} {c G:List Int} (h:ItJ w wr u v A E) (f:Ww Y (δ N c.length U) (δ O G.length J)) (ad:SlI .u8 w (δ O G.length J) G) (ac:wr.heap.size<=Y.heap.size):
  c≠[]-> ∀g,(δ N c.length U).ownBlock=some g-> ¬(v.ownBlock=some g∨u.ownBlock=some g):=by
 intro ab g I d;rcases f with f | f
 ·exact wi h ac f g I d
 ·have H:=f;injection H with _ H _
  have aa:G≠[]:=λe=>ab (List.eq_nil_of_length_eq_zero (by rw[H,e];rfl))
  rw[f] at I;have ae:=ad.old aa I;rcases d with d | d
  ·have:=jG h.errs d;omega
  ·have:=h.row.ge d;omega
theorem Dq (b:List Int) (v:Value) (w:World) (H:SlI .u8 w v b) (O:Byt b) (U:b.length<=1000000) (d: ¬(jI b).2=0):
  Calls prog 188 #[v] w λe w'=> ∃vx,e= .returned (.tuple #[vx,ι (zx b).2])/\SlP 17 Qk w' vx (zx b).1/\qa w w':=by
 have J:=κ (Z6 v b w H O U);have I:Hid (zx b=([],(jI b).2)):=κ (by unfold zx;rw[if_neg d]);have Y:((jI b).2 != 0)=true:=by simp[d]
 clear H d;rw[I.o]
 go_enter func188,ntmps188
 go_wp2_with (go_at_call 240;(go_call J.o as e w1 ⟨aa,rfl,s1,G⟩;have N:=κ G;clear s1 G))
 go_ret2
 exact⟨_,rfl,SlP.nil _ _ _,N.o⟩
theorem Wb (b:List Int) (v:Value) (w:World) (sl:SlI .u8 w v b) (aD:Byt b) (bf:b.length<=1000000) (ae:(jI b).2=0):
  Calls prog 188 #[v] w λe w'=> ∃vx,e= .returned (.tuple #[vx,ι (zx b).2])/\SlP 17 Qk w' vx (zx b).1/\qa w w':=by
 obtain⟨bm,hi,bg,bh,bi⟩:=info_parts (P:=prog) (e:=293) (z:= Γf) (size:=17) (bytes:=160) ξ;obtain⟨bn,bp,bq,br,bs⟩:=info_parts (P:=prog) (e:=29) (z:= ι 0) (size:=1) (bytes:=8) ξ;have ac:=κ (Z6 v b w sl aD bf);have ay:Hid (szC (jI b).1<=200):=κ (QY aD (k:=(jI b).1) (by rw[<-ae])).2.2.2;have G:Hid (zx b=if vg ((jI b).1.map λc=>(qv c).2)=0 then ((jI b).1.map λc=>(qv c).1,0) else ([],vg ((jI b).1.map λc=>(qv c).2))):=κ (by unfold zx;rw[if_pos ae]);have aT:=κ ae;clear sl ae;generalize (jI b).1=l at *
 go_enter func188,ntmps188
 go_wp2_with (go_at_call 240;(go_call ac.o as e w1 ⟨bM,rfl,s1,aL⟩;rw[aT.o];have bu:=κ s1;have az:=κ aL;obtain⟨bI,cap,rfl,bD,aG⟩:=Ae s1;have aV:=κ aG;clear s1 aL aG))
 have aZ:Hid (ItJ w1 w1 (δ none 0 0) (δ none 0 0) [] []):=κ ⟨je.nil _ _ _ _ _ _,World.ownsRow_nil _ _ _ _,qa.refl _⟩;clear ac
 go_loopw [6,7,23] (λu v an wr=> ∃(j:Nat),j<=l.length/\an= ι j/\(∃ar ao ah au ap ai,u= δ ar ao ah/\v= δ au ap ai/\ItJ w1 wr (δ ar ao ah) (δ au ap ai) ((l.take j).map λc=>(qv c).1) ((l.take j).map λc=>(qv c).2))) (λ_ _ an _=>l.length-(intOf an).toNat)
 case atStart=>exact⟨0,τ,rfl,_,_,_,_,_,_,rfl,rfl,aZ.o⟩
 case round=>
  obtain⟨j,bB,rfl,ar,ao,ah,au,ap,ai,rfl,rfl,aC⟩:=hrel;have d:=κ aC;clear aC;by_cases hlt:j<l.length
  ·obtain⟨bw,bJ,vb,rfl,bd,am⟩:=aV.o j hlt;obtain⟨bx,c1,c2,aJ,aF⟩:=am.more d.o.more bd;have aX:=κ am.sl;have av:=κ aF;have aY:=κ aJ;obtain⟨aE,bE⟩:=Xa ay.o j hlt;have aU:=κ aE;have bC:(j:Int)<(l.length:Int):=by omega
   have ac:=κ (kv l j xu hlt);have aw:Hid ((l.take j).length=j/\j<=200):=κ ⟨by simp;omega,τ⟩;clear am aF aE;generalize l.take j=acc at *;generalize l.getD j xu=c at *;obtain⟨aq,ag,rfl,_⟩:=aJ
   go_wp2_with (first | (go_at_call 241;(go_call Wi c aq ag _ (aY.o.keep (qa.alloc _ _)) av.o aU.o as e w2 ⟨⟨bL,bK,bN,bO,rfl,s2,n2,aN,aO,aB⟩,aM⟩;have bc:=κ s2;obtain⟨U,H,rfl,_⟩:=id s2.bl;obtain⟨Y,I,rfl,_⟩:=id s2.ms.asks;obtain⟨aa,J,rfl,_⟩:=id s2.ms.lost;obtain⟨ab,N,rfl,_⟩:=id s2.bo;have O:=(qa.alloc wr (.cells #[υ c.1,υ c.2.1,δ aq c.2.2.1.length ag] 291)).size;have aP:=κ (wi d.o O n2);have aQ:=κ (wi d.o O aN);have aR:=κ (wi d.o O aO);have aS:=κ (US d.o aB aX.o O);have bb:=κ ((qa.alloc wr (.cells #[υ c.1,υ c.2.1,δ aq c.2.2.1.length ag] 291)).trans aM);clear aM n2 aN aO aB s2 O;have ad:=κ ((d.o.on bb.o).on ((qa.alloc w2 (.cells #[ι (qv c).1.kind,μ (qv c).1.rep.snd,ω (qv c).1.rep.src,ω (qv c).1.rep.inf.sec,ω (qv c).1.rep.inf.frac,ω (qv c).1.rep.inf.stamp,ω (qv c).1.rep.inf.pkts,ω (qv c).1.rep.inf.octs,δ U (qv c).1.rep.bl.length H,ι (qv c).1.msg.kind,ω (qv c).1.msg.snd,ω (qv c).1.msg.med,δ Y (qv c).1.msg.asks.length I,δ aa (qv c).1.msg.lost.length J,υ (qv c).1.oth.1,υ (qv c).1.oth.2.1,δ ab (qv c).1.oth.2.2.1.length N] 293)).al (.cells #[ι (qv c).1.kind,μ (qv c).1.rep.snd,ω (qv c).1.rep.src,ω (qv c).1.rep.inf.sec,ω (qv c).1.rep.inf.frac,ω (qv c).1.rep.inf.stamp,ω (qv c).1.rep.inf.pkts,ω (qv c).1.rep.inf.octs,δ U (qv c).1.rep.bl.length H,ι (qv c).1.msg.kind,ω (qv c).1.msg.snd,ω (qv c).1.msg.med,δ Y (qv c).1.msg.asks.length I,δ aa (qv c).1.msg.lost.length J,υ (qv c).1.oth.1,υ (qv c).1.oth.2.1,δ ab (qv c).1.oth.2.2.1.length N] 293))))) | (refine jU rfl 293 (.tmp 10) (.tmp 30) rfl w2 _ #[ι (qv c).1.kind,μ (qv c).1.rep.snd,ω (qv c).1.rep.src,ω (qv c).1.rep.inf.sec,ω (qv c).1.rep.inf.frac,ω (qv c).1.rep.inf.stamp,ω (qv c).1.rep.inf.pkts,ω (qv c).1.rep.inf.octs,δ U (qv c).1.rep.bl.length H,ι (qv c).1.msg.kind,ω (qv c).1.msg.snd,ω (qv c).1.msg.med,δ Y (qv c).1.msg.asks.length I,δ aa (qv c).1.msg.lost.length J,υ (qv c).1.oth.1,υ (qv c).1.oth.2.1,δ ab (qv c).1.oth.2.2.1.length N] rfl rfl rfl ξ rfl (all_oneCell_toArray (by simp[Value.oneCell'])) ?_) | (refine wpList_load_row rfl 293 (.tmp 10) rfl w2.heap.size rfl _ #[ι (qv c).1.kind,μ (qv c).1.rep.snd,ω (qv c).1.rep.src,ω (qv c).1.rep.inf.sec,ω (qv c).1.rep.inf.frac,ω (qv c).1.rep.inf.stamp,ω (qv c).1.rep.inf.pkts,ω (qv c).1.rep.inf.octs,δ U (qv c).1.rep.bl.length H,ι (qv c).1.msg.kind,ω (qv c).1.msg.snd,ω (qv c).1.msg.med,δ Y (qv c).1.msg.asks.length I,δ aa (qv c).1.msg.lost.length J,υ (qv c).1.oth.1,υ (qv c).1.oth.2.1,δ ab (qv c).1.oth.2.2.1.length N] _ _ (heap_alloc_new w2 _) underlying293 rfl ξ ?_) | (at_builtin;refine jN _ rfl (.tmp 32) (.tmp 34) 294 rfl w1.heap.size 293 bm (Γf) 17 160 underlying294 hi bg bh bi rfl ζ _ (acc.map λc=>(qv c).1) rfl ad.o.row (w2.heap.size+1) [ι (qv c).1.kind,μ (qv c).1.rep.snd,ω (qv c).1.rep.src,ω (qv c).1.rep.inf.sec,ω (qv c).1.rep.inf.frac,ω (qv c).1.rep.inf.stamp,ω (qv c).1.rep.inf.pkts,ω (qv c).1.rep.inf.octs,δ U (qv c).1.rep.bl.length H,ι (qv c).1.msg.kind,ω (qv c).1.msg.snd,ω (qv c).1.msg.med,δ Y (qv c).1.msg.asks.length I,δ aa (qv c).1.msg.lost.length J,υ (qv c).1.oth.1,υ (qv c).1.oth.2.1,δ ab (qv c).1.oth.2.2.1.length N] (qv c).1 rfl rfl (zS η) (by simp[Value.oneCell']) ((Fg bc.o (Cd av.o) aP.o aQ.o aR.o aS.o).on ((qa.alloc _ _).al _)) (λb h=>gB ad.o.errs h) ζ (by have:=aw.o;rw[List.length_map];omega) ad.o.more.size ?_;intro v8 w8 aj aH be;have af:=κ (ad.o.put aj aH);obtain⟨bG,bF,bz,rfl,bj,bk⟩:=aj.shape;clear aj aH be bj bk) | (at_builtin;refine qU _ rfl (.tmp 36) (.tmp 38) 416 rfl w1.heap.size 29 bn (ι 0) 8 underlying416 bp bq br bs rfl _ .i64 (acc.map λc=>(qv c).2) rfl (af.o.on (qa.alloc _ _)).errs _ [(qv c).2] rfl (SlI.lit .i64 w8 [(qv c).2] 29 _ 1 _ rfl rfl rfl η) (by have:=aw.o;rw[List.length_map];simp;omega) ζ (by have:=af.o.more.size;simp;omega) ?_;intro v9 w9 ak aI aK;have ba:=κ ((af.o.on (qa.alloc _ _)).err ak aI aK);obtain⟨bH,bA,aA⟩:=xl ak;rw[show ((acc.map λc=>(qv c).2)++[(qv c).2]).length=acc.length+1 from by simp] at aA;subst aA;clear ak aI aK))
   go_roundw
   case rel=>exact⟨j+1,τ,by go_num,_,_,_,_,_,_,rfl,rfl,by rw[ac.o,List.map_append,List.map_append];exact ba.o⟩
   case measure=>simp[intOf];omega
  ·obtain rfl:j=l.length:=by omega
   rw[List.take_length] at d
   have ax:Hid ((l.map λc=>(qv c).2).length<=1000):=κ (by
    rw[List.length_map];by_cases he:0<l.length
    ·have:=(Xa ay.o 0 he).2;omega
    ·omega)
   by_cases hf:vg (l.map λc=>(qv c).2)=0
   ·have aW:=κ hf;rw[if_pos hf] at G;clear hf
    go_wp2_with (go_at_call 242;(go_call gh (l.map λc=>(qv c).2) _ _ (SlI.of_owns d.o.errs (by have:=ax.o;omega)) as e bt ⟨rfl,rfl⟩;rw[aW.o]))
    go_ret2
    exact⟨_,by rw[G.o];rfl,by rw[G.o];exact d.o.row.sl ζ,az.o.trans d.o.more⟩
   ·have bv:(vg (l.map λc=>(qv c).2) != 0)=true:=by simp[hf]
    rw[if_neg hf] at G;clear hf
    go_wp2_with (go_at_call 242;(go_call gh (l.map λc=>(qv c).2) _ _ (SlI.of_owns d.o.errs (by have:=ax.o;omega)) as e bt ⟨rfl,rfl⟩))
    go_ret2
    exact⟨_,by rw[G.o];rfl,by rw[G.o];exact SlP.nil _ _ _,az.o.trans d.o.more⟩
theorem Dr (b:List Int) (v:Value) (w:World) (H:SlI .u8 w v b) (d:Byt b) (G:b.length<=1000000):
  Calls prog 188 #[v] w λe w'=> ∃vx,e= .returned (.tuple #[vx,ι (zx b).2])/\SlP 17 Qk w' vx (zx b).1/\qa w w':=by
 by_cases h0:(jI b).2=0
 ·exact Wb b v w H d G h0
 ·exact Dq b v w H d G h0
end
end Go.Proofs.YtlmllmonabafjaaGreatDoor
