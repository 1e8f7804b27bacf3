/- Contracts of the functions that the law reaches, and plain laws; no conditions but those written at each. -/
import Derived.Test.YtdgippmmaponfaaGreatMg11
import Derived.Deep.MidRow
import Derived.Deep.WholeRow
namespace Go.Proofs.YtdgippmmaponfaaGreat
open Go.Value renaming bool->μ,slice->δ,pointer->π,agg->θ
open Go.IntKind renaming i64->ι,u8->υ,u16->φ,u32->ω,i32->χ,u64->ψ
open _root_.Go.Proofs.Tryz
set_option linter.unusedSimpArgs false
set_option maxHeartbeats 8000000
set_option linter.unusedVariables false
open Go.RowKit
set_option maxRecDepth 100000
theorem Yv {S:Nat->Prop} {w w':World} {v:Value} {l:List Blk} (h:SlP 7 Yj w v l) (O: ∀b,v.ownBlock=some b-> ¬S b) (a:qg S w w'):SlP 7 Yj w' v l:=by
 obtain⟨M,cap,rfl,aa,I,H⟩:=h;refine⟨M,cap,rfl,aa,λi hi=> ?_,H⟩;obtain⟨b,G,cs,rfl,d,J,N,Y⟩:=I i hi;exact⟨b,G,cs,rfl,Nat.lt_of_lt_of_le d a.size,J,λj U=>by rw[a.cells b _ d (O b rfl)];exact N j U,Y⟩
theorem JD {w:World} {R:Nat} {s:RdS} {C:Nat->Prop} (h:qu w R s.1 s.2 C):
  Calls prog 61 #[γ R] w λd w'=>d= .returned (ι (wM s))/\w'=w:=yT h
structure RpJ (w0 w:World) (R B5:Nat) (C:Nat->Prop) (o0 o1:Obj) (xs:List Value) (v:Value) (bl:List Blk) (s:RdS):Prop where
 rd:qu w R s.1 s.2 C
 b0:w.heap[w0.heap.size]? =some o0
 b1:w.heap[w0.heap.size+1]? =some o1
 b5:w.heap[B5]? =some (.cells (xs++[v]).toArray 252 (0,0))
 row:je 7 Yj (λb=>b=R∨b=B5) w (B5+1) 407 v bl
 more:qa w0 w
 h1:w0.heap.size+1<R
 h2:R<B5
 hC: ∀g,C g->w0.heap.size+1<g/\g<B5
theorem RpJ.new {w d w4 w5:World} {R:Nat} {H G:Obj} {s:RdS} (xs:List Value) (cs:Array Value) (O:cs=(xs++[δ none 0 0]).toArray) (M:w4.heap[w.heap.size]? =some H) (I:w4.heap[w.heap.size+1]? =some G) (N:qu w5 R s.1 s.2 (λg=>d.heap.size<=g/\g<w4.heap.size)) (a5:qg (λb=>b=R) w4 w5) (J:qa w w4) (ab:w.heap.size+2<=d.heap.size) (aa:d.heap.size<=R) (U:R<w4.heap.size):
  RpJ w (w5.alloc (.cells cs 252)) R w5.heap.size (λg=>d.heap.size<=g/\g<w4.heap.size) H G xs (δ none 0 0) [] s:=by
 subst O;have Y:=a5.size;exact⟨N.more (qa.alloc _ _),qs (a5.blk M τ) _,qs (a5.blk I τ) _,qj w5 _,je.nil _ _ _ _ _ _,(Jv a5 J τ).al _,τ,τ,λg h=>⟨τ,τ⟩⟩
theorem RpJ.read {I w w':World} {R J:Nat} {C:Nat->Prop} {H d:Obj} {xs:List Value} {v:Value} {G:List Blk} {s s':RdS} (h:RpJ I w R J C H d xs v G s) (r:qu w' R s'.1 s'.2 C) (a:qg (λb=>b=R) w w'):RpJ I w' R J C H d xs v G s':=by
 have h1:=h.h1;have h2:=h.h2;exact⟨r,a.blk h.b0 τ,a.blk h.b1 τ,a.blk h.b5 τ,h.row.step (a.mono λk M=>Or.inl M),Jv a h.more τ,h1,h2,h.hC⟩
theorem RpJ.on {I w w':World} {R J:Nat} {C:Nat->Prop} {H d:Obj} {xs:List Value} {v:Value} {G:List Blk} {s:RdS} (h:RpJ I w R J C H d xs v G s) (m:qa w w'):RpJ I w' R J C H d xs v G s:=
 ⟨h.rd.more m,qc m h.b0,qc m h.b1,qc m h.b5,h.row.on m,h.more.trans m,h.h1,h.h2,h.hC⟩
theorem RpJ.put {I w w':World} {R d:Nat} {C:Nat->Prop} {U N:Obj} {xs:List Value} {v v':Value} {Y O:List Blk} {s:RdS} (h:RpJ I w R d C U N xs v Y s) (aa:xs.length=7)
  (ab:je 7 Yj (λb=>b=R∨b=d) w' (d+1) 407 v' O) (H:w.grownBy w' v.ownBlock):RpJ I (w'.setCell ⟨d,7,none⟩ v') R d C U N xs v' O s:=by
 have h1:=h.h1;have h2:=h.h2;have G: ∀g,v.ownBlock=some g->d+1<=g:=λg e=>h.row.ge e
 have a:qg (λb=>v.ownBlock=some b) w w':=⟨H.os,H.tape,H.output,H.size,λk M ad=>H.block k M (λe=>ad e.symm)⟩;have a5:qg (λb=>b=d) w' (w'.setCell ⟨d,7,none⟩ v'):=(qg.refl (λb=>b=d) w').set (p:=⟨d,7,none⟩) rfl v';have ac:qa I w':=qg.to_more h.more a (λk e=>by have:=G k e;omega);refine⟨(h.rd.off a (λe=>by have:=G R e;omega) (λg J e=>by have:=G g e;have:=(h.hC g J).2;omega)).off a5 τ (λg J e=>by have:=(h.hC g J).2;omega),a5.blk (a.blk h.b0 (λe=>by have:=G _ e;omega)) τ,a5.blk (a.blk h.b1 (λe=>by have:=G _ e;omega)) τ,qB (qp (a.blk h.b5 (λe=>by have:=G _ e;omega)) 7 v') ?_,ab.step (a5.mono λk M=>Or.inr M),ac.st (by show I.heap.size<=d;omega) v',h1,h2,h.hC⟩
 match xs,aa with
 | [x0,x1,x2,x3,x4,x5,x6],_=>rfl
theorem RpJ.set {G w:World} {R d:Nat} {C:Nat->Prop} {J H:Obj} {xs:List Value} {v:Value} {I:List Blk} {s:RdS} (h:RpJ G w R d C J H xs v I s) (i:Nat) (hi:i<xs.length) (x:Value):RpJ G (w.setCell ⟨d,i,none⟩ x) R d C J H (xs.set i x) v I s:=by
 have h1:=h.h1;have h2:=h.h2;have a5:qg (λb=>b=d) w (w.setCell ⟨d,i,none⟩ x):=(qg.refl (λb=>b=d) w).set (p:=⟨d,i,none⟩) rfl x;refine⟨h.rd.off a5 τ (λg M e=>by have:=(h.hC g M).2;omega),a5.blk h.b0 τ,a5.blk h.b1 τ,qB (qp h.b5 i x) ?_,h.row.step (a5.mono λk N=>Or.inr N),h.more.st (by show G.heap.size<=d;omega) x,h1,h2,h.hC⟩;simp[List.setIfInBounds_toArray,List.set_append,hi]
theorem YY (n:Nat) (s:RdS) (acc:List Blk):acc++(js (n+1) s).1=(acc++[(qM s).1])++(js n (qM s).2).1/\(js (n+1) s).2=(js n (qM s).2).2:=by
 constructor
 ·show acc++((qM s).1::(js n (qM s).2).1)=_;simp
 ·rfl
theorem Ux {s:RdS} (h:Byt s.1):QS (qM s).1:=by
 have I:=jK h 4;have U:=jK I 1;have G:=jK U 3;have d:=jK G 4;have H:=jK d 4;have N:=jK H 4;have M:=zv (tkB (tkS s 4).1 1) 1 (jL I 1) (zh _ 1 ζ) ζ;have O:=KR (num (tkB (tkS (tkS s 4) 1).1 3)) 24 ζ ζ;have J:two (24-1)=8388608:=by decide
 rw[J] at O;exact⟨kp h,⟨M.1,by show num (tkB (tkS s 4).1 1)<=255;omega⟩,⟨by show -2147483648<=sgd _ 24;omega,by show sgd _ 24<=2147483647;omega⟩,kp G,kp d,kp H,kp N⟩
theorem Bf {c:qQ} (N:xk c):Zx (qG c).1:=by
 by_cases h:(qG c).2=0
 ·exact(YP (r:=(qG c).1) N (by rw[<-h])).2.1
 ·have:(qG c).1=Qh:=by
   unfold qG at h ⊢;have H: ∀r s,¬(yZ r s).2=0->(yZ r s).1=Qh:=by
    intro r s d;unfold yZ at d ⊢;split
    ·rename_i y;rw[if_pos y] at d;exact absurd rfl d
    ·rfl
   split
   ·rfl
   ·rename_i M;rw[if_neg M] at h;split
    ·rename_i G;rw[if_pos G] at h;exact H _ _ h
    ·rename_i G;rw[if_neg G] at h;split
     ·rename_i I;rw[if_pos I] at h;exact H _ _ h
     ·rfl
  rw[this];exact⟨ζ,WY,λb J=>by cases J⟩
theorem Du {w:World} (k t:Int) (B:List Int) (H:Option Addr) (G:Nat) (aa:Hid (SlI .u8 w (δ H B.length G) B)) (ap:Hid (Byt B)) (ai:B.length<=1000000) (O:Hid (jx (k,t,B,())=false)):
  Calls prog 241 #[θ #[υ k,υ t,δ H B.length G]] w λe w'=>e= .returned (.tuple #[Γd,ι 1])/\qa w w':=by
 have N:qa w ((w.alloc (.cells #[υ k,υ t,δ H B.length G] 254)).alloc (.cells Γd 252)):=(qa.alloc _ _).al _;have J:((w.alloc (.cells #[υ k,υ t,δ H B.length G] 254)).alloc (.cells Γd 252)).heap[w.heap.size]? =some (.cells #[υ k,υ t,δ H B.length G] 254):=qs (qj w _) _;have M:((w.alloc (.cells #[υ k,υ t,δ H B.length G] 254)).alloc (.cells Γd 252)).heap[w.heap.size+1]? =some (.cells Γd 252):=qC η
 go_enter func241,ntmps241
 go_wp2_with (go_at_call 203;refine(xR (k,t,B,()) (aa.o.keep N) ai).mono ?_;rintro e ak ⟨rfl,I⟩;rw[O.o];have ad:=N.trans I;have U:=qc I J;have d:=qc I M;have ao:w.heap.size+2<=ak.heap.size:=Nat.le_trans η I.size;have af:=β0 d;have z0:=qd d 0;have ae:=β1 d;have aq:=qd d 1;have ab:=β2 d;have am:=qd d 2;have ag:=β3 d;have z3:=qd d 3;have Y:=β4 d;have z4:=qd d 4;have aj:=β5 d;have z5:=qd d 5;have ac:=β6 d;have an:=qd d 6;have ah:=β7 d;have ar:=qd d 7;clear U d J M)
 (refine bodyPost_ret (v:= .tuple #[Γd,ι 1]) ?rr1 rfl ?_;(case rr1=>(simp[results,results241,go_sem,af,ae,ab,ag,Y,aj,ac,ah])))
 exact⟨rfl,((((((((ad.st η _).st η _).st η _).st η _).st η _).st η _).st η _).st η _)⟩
theorem Y8 {w:World} (k t:Int) (B:List Int) (H:Option Addr) (G:Nat) (O:Hid (SlI .u8 w (δ H B.length G) B)) (ar:Hid (Byt B)) (ab:B.length<=1000000) (ac:Hid (jx (k,t,B,())=true)) (ag: ¬t=200) (ay: ¬t=201):
  Calls prog 241 #[θ #[υ k,υ t,δ H B.length G]] w λe w'=>e= .returned (.tuple #[Γd,ι 5])/\qa w w':=by
 have aa:qa w ((w.alloc (.cells #[υ k,υ t,δ H B.length G] 254)).alloc (.cells Γd 252)):=(qa.alloc _ _).al _;have ai:((w.alloc (.cells #[υ k,υ t,δ H B.length G] 254)).alloc (.cells Γd 252)).heap[w.heap.size]? =some (.cells #[υ k,υ t,δ H B.length G] 254):=qs (qj w _) _;have am:((w.alloc (.cells #[υ k,υ t,δ H B.length G] 254)).alloc (.cells Γd 252)).heap[w.heap.size+1]? =some (.cells Γd 252):=qC η;have aI:(t==200)=false:=by simpa using ag
 have aC:(t==201)=false:=by simpa using ay
 go_enter func241,ntmps241
 go_wp2_with first | (go_at_call 203;refine(xR (k,t,B,()) (O.o.keep aa) ab).mono ?_;rintro e J ⟨rfl,I⟩;rw[ac.o];have Y:=aa.trans I;have N:=qc I ai;have ak:=qc I am;have ap:w.heap.size+2<=J.heap.size:=Nat.le_trans η I.size;have aG:=β2 N) | (go_at_call 53;(go_call km _ B J (O.o.keep Y) ar.o ab as e w4 ⟨R,rfl,ao,U,M⟩;have az:=qc M N;have ad:=qc M ak;have ae:=Y.trans M;have aj:R<w4.heap.size:=by (obtain⟨v,au,_⟩:=U.blk;exact qn au))) | (go_at_call 56;(go_call jD U as e w5 ⟨rfl,aA,a5⟩;have d:RpJ w (w5.alloc (.cells #[μ false,ω (num (tkB B 4)),ω 0,ω 0,ω 0,ω 0,ω 0,()] 252)) R w5.heap.size (λg=>J.heap.size<=g/\g<w4.heap.size) (.cells #[υ k,υ t,δ H B.length G] 254) (.cells Γd 252) [μ false,ω (num (tkB B 4)),ω 0,ω 0,ω 0,ω 0,ω 0] (δ none 0 0) [] (tkL B 4,tkE B 4 0):=RpJ.new _ _ rfl az ad aA a5 ae ap ao aj;have aD:=β1 d.b0;have aJ:=β0 d.b0;have av:=β0 d.b1;have z0:=qd d.b1 0;have aq:=β1 d.b1;have aH:=qd d.b1 1;have ah:=β2 d.b1;have aE:=qd d.b1 2;have aw:=β3 d.b1;have z3:=qd d.b1 3;have af:=β4 d.b1;have z4:=qd d.b1 4;have aB:=β5 d.b1;have z5:=qd d.b1 5;have an:=β6 d.b1;have aF:=qd d.b1 6;have ax:=β7 d.b1;have aK:=qd d.b1 7))
 (refine bodyPost_ret (v:= .tuple #[Γd,ι 5]) ?rr2 rfl ?_;(case rr2=>(simp[results,results241,go_sem,av,aq,ah,aw,af,aB,an,ax])))
 exact⟨rfl,((((((((d.more.st η _).st η _).st η _).st η _).st η _).st η _).st η _).st η _)⟩
theorem XL {w:World} (G:Nat) (t:Int) (snd:Bool) (inf:Inf) (s0:RdS) (B:List Int) (O:Option Addr) (N:Nat) (D:Rep×Int) (aQ:Hid (SlI .u8 w (δ O B.length N) B)) (bw:Hid (Byt B)) (aO:B.length<=1000000) (ca:G<=31) (aC:Hid (jx ((G:Int),t,B,())=true))
  (bo:t=if snd then 200 else 201) (aV:(if snd then jA (tkL B 4,tkE B 4 0) else (Jj,(tkL B 4,tkE B 4 0)))=(inf,s0)) (bD:Hid (yZ ⟨snd,num (tkB B 4),inf,(js G s0).1⟩ (js G s0).2=D)):
  Calls prog 241 #[θ #[υ (G:Int),υ t,δ O B.length N]] w λe w'=>(∃vb,e= .returned (.tuple #[θ #[μ D.1.snd,ω D.1.src,ω D.1.inf.sec,ω D.1.inf.frac,ω D.1.inf.stamp,ω D.1.inf.pkts,ω D.1.inf.octs,vb],ι D.2])/\SlP 7 Yj w' vb D.1.bl/\jX w vb)/\qa w w':=by
 obtain⟨bz,hi,bQ,bO,bs⟩:=info_parts (P:=prog) (e:=407) (z:= Γe) (size:=7) (bytes:=28) ξ;obtain⟨k,aA⟩: ∃k:Int,k=(G:Int):=⟨_,rfl⟩;rw[<-aA] at aC ⊢;have av:=κ aA;clear aA;have ao:qa w ((w.alloc (.cells #[υ k,υ t,δ O B.length N] 254)).alloc (.cells Γd 252)):=(qa.alloc _ _).al _;have bj:((w.alloc (.cells #[υ k,υ t,δ O B.length N] 254)).alloc (.cells Γd 252)).heap[w.heap.size]? =some (.cells #[υ k,υ t,δ O B.length N] 254):=qs (qj w _) _;have aS:((w.alloc (.cells #[υ k,υ t,δ O B.length N] 254)).alloc (.cells Γd 252)).heap[w.heap.size+1]? =some (.cells Γd 252):=qC η;have aD:=κ bo;have aG:=κ aV;clear bo aV
 go_enter func241,ntmps241
 go_upto_block 2 with first | (go_at_call 203;refine(xR (k,t,B,()) (aQ.o.keep ao) aO).mono ?_;rintro e af ⟨rfl,aj⟩;rw[aC.o];have bk:=ao.trans aj;have bg:=qc aj bj;have br:=qc aj aS;have bm:w.heap.size+2<=af.heap.size:=Nat.le_trans η aj.size;have bv:=β2 bg) | (go_at_call 53;(go_call km _ B af (aQ.o.keep bk) bw.o aO as e w4 ⟨R,rfl,aF,aJ,ap⟩;have aX:=qc ap bg;have bf:=qc ap br;have aP:=bk.trans ap;have aE:R<w4.heap.size:=by (obtain⟨v,h1,_⟩:=aJ.blk;exact qn h1))) | (go_at_call 56;(go_call jD aJ as e w5 ⟨rfl,aY,a5⟩;have ae:RpJ w (w5.alloc (.cells #[μ false,ω (num (tkB B 4)),ω 0,ω 0,ω 0,ω 0,ω 0,()] 252)) R w5.heap.size (λg=>af.heap.size<=g/\g<w4.heap.size) (.cells #[υ k,υ t,δ O B.length N] 254) (.cells Γd 252) [μ false,ω (num (tkB B 4)),ω 0,ω 0,ω 0,ω 0,ω 0] (δ none 0 0) [] (tkL B 4,tkE B 4 0):=RpJ.new _ _ rfl aX bf aY a5 aP bm aF aE;have aw:=β1 ae.b0))
 have ax:=κ ae;clear ae aw
 go_cut [] from 19 to 51 (λbI=>RpJ w bI R w5.heap.size (λg=>af.heap.size<=g/\g<w4.heap.size) (.cells #[υ k,υ t,δ O B.length N] 254) (.cells Γd 252) [μ snd,ω (num (tkB B 4)),ω inf.sec,ω inf.frac,ω inf.stamp,ω inf.pkts,ω inf.octs] (δ none 0 0) [] s0)
 case first=>
  cases snd
  ·have h1:=aD.o;have h2:=aG.o;simp only[Bool.false_eq_true,if_false,Prod.mk.injEq] at h1 h2;obtain⟨rfl,rfl⟩:=h2;subst h1;have aw:=β1 ax.o.b0;go_wp2;go_meet;exact ax.o
  ·have h1:=aD.o;have h2:=aG.o;simp only[if_true] at h1 h2;subst h1;have ag:inf=(jA (tkL B 4,tkE B 4 0)).1:=by rw[h2]
   have bF:s0=(jA (tkL B 4,tkE B 4 0)).2:=by rw[h2]
   subst ag bF;clear h2;have aw:=β1 ax.o.b0;have ae:RpJ w (w5.alloc (.cells #[μ true,ω (num (tkB B 4)),ω 0,ω 0,ω 0,ω 0,ω 0,()] 252)) R w5.heap.size (λg=>af.heap.size<=g/\g<w4.heap.size) (.cells #[υ k,υ 200,δ O B.length N] 254) (.cells Γd 252) [μ true,ω (num (tkB B 4)),ω 0,ω 0,ω 0,ω 0,ω 0] (δ none 0 0) [] (tkL B 4,tkE B 4 0):=RpJ.new _ _ rfl aX bf aY a5 aP bm aF aE
   go_wp2_with ((go_at_call 259;(go_call Kx (s:=(tkL B 4,tkE B 4 0)) ae.rd as e bV ⟨rfl,bc,aU⟩;have M:=ae.read bc aU;have cx:=β2 M.b5;have cb:=qd M.b5 2;have cw:=β3 M.b5;have cl:=qd M.b5 3;have bY:=β4 M.b5;have ch:=qd M.b5 4;have bS:=β5 M.b5;have cn:=qd M.b5 5;have cf:=β6 M.b5;have cp:=qd M.b5 6;have bA:=(((((M.set 2 η (ω (jA (tkL B 4,tkE B 4 0)).1.sec)).set 3 η (ω (jA (tkL B 4,tkE B 4 0)).1.frac)).set 4 η (ω (jA (tkL B 4,tkE B 4 0)).1.stamp)).set 5 η (ω (jA (tkL B 4,tkE B 4 0)).1.pkts)).set 6 η (ω (jA (tkL B 4,tkE B 4 0)).1.octs));clear bc aU)))
   go_meet;exact bA
 case rest=>
 have ay:=hcut;have cd:=β0 ay.b0;go_wp2;clear bv ao bj aS;have be:=κ ay;clear ay;obtain⟨bd,cy⟩: ∃bd,bd=R:=⟨_,rfl⟩;obtain⟨I,ak⟩: ∃I,I=w5.heap.size:=⟨_,rfl⟩;obtain⟨C,bh⟩: ∃C:Nat->Prop,C=λg=>af.heap.size<=g/\g<w4.heap.size:=⟨_,rfl⟩
 rw[<-ak,<-bh] at be;have cm:=κ (And.intro ak av.o);rw[<-ak];clear ak bh;have bK:=bD
 go_loopw [29] (λaq wr=> ∃j:Nat,j<=G/\aq= υ (j:Int)/\(∃v bl s,RpJ w wr R I C (.cells #[υ k,υ t,δ O B.length N] 254) (.cells Γd 252) [μ snd,ω (num (tkB B 4)),ω inf.sec,ω inf.frac,ω inf.stamp,ω inf.pkts,ω inf.octs] v bl s/\bl.length=j/\(js G s0).1=bl++(js (G-j) s).1/\(js G s0).2=(js (G-j) s).2)) (λaq _=>G-(intOf aq).toNat)
 case atStart=>exact⟨0,τ,rfl,⟨_,_,_,be.o,rfl,η,rfl⟩⟩
 case round=>
  obtain⟨j,ci,rfl,⟨v,bl,s,d,aZ,ab,ac⟩⟩:=hrel;have U:=κ d;have aN:=κ aZ;clear d aZ;by_cases hlt:j<G
  ·have bq:(j:Int)<k:=by rw[av.o];omega
   have ag:G-j=(G-(j+1))+1:=by omega
   have az:=YY (G-(j+1)) s bl;rw[ag,az.1] at ab;rw[ag,az.2] at ac;have bt:=κ ab;have bM:=κ ac;clear ab ac az ag;have bX:((j:Int)+1)%256=(j:Int)+1:=by omega
   have bB: ¬(I=R∨v.ownBlock=some I):=by
    rintro(e | e)
    ·have:=U.o.h2;omega
    ·have:=U.o.row.ge e;omega
   have cz:=λ(x:qz (λb=>b=R∨v.ownBlock=some b) wr)=>β7 (x.h.blk U.o.b5 bB)
   go_wp2_with fail
   refine QN (λb=>b=R∨v.ownBlock=some b) wr 7 8 [3,4,5,7] ?_
   refine Qs ?_
   (refine Ql ?_;intro K H)
   refine(Kz (s:=s) (U.o.rd.more (qa.drewN _ 1))).mono ?_;rintro e w8 ⟨rfl,bP,aI⟩;have aW:qg (λb=>b=R∨v.ownBlock=some b) wr w8:=((qg.refl _ _).drewN _).trans (aI.mono λb h=>Or.inl h);refine⟨_,rfl,qi aW,H _ _ ?_⟩;clear H K
   (refine Ql ?_;intro K H)
   have a9:=aW.more (qa.alloc w8 (.cells #[ω (qM s).1.src,υ (qM s).1.part,χ (qM s).1.miss,ω (qM s).1.high,ω (qM s).1.jit,ω (qM s).1.last,ω (qM s).1.dly] 407));refine⟨qi a9,H _ _ ?_⟩;clear H K;have bu:=(U.o.on (qa.drewN wr 1)).read bP aI;have J:=bu.on (qa.alloc w8 (.cells #[ω (qM s).1.src,υ (qM s).1.part,χ (qM s).1.miss,ω (qM s).1.high,ω (qM s).1.jit,ω (qM s).1.last,ω (qM s).1.dly] 407));have bL:=Ux (s:=s) U.o.rd.byt
   (refine jR rfl rfl ?_;intro K H)
   refine zK (.tmp 32) (.tmp 35) 250 rfl (I+1) 407 bz (Γe) 7 28 underlying250 hi bQ bO bs rfl ζ v bl rfl J.row w8.heap.size (qM s).1.cells (qM s).1 rfl rfl (zS rfl) (by simp[Blk.cells,Value.oneCell']) (λ_ _=>⟨rfl,bL⟩) (λb an=>by have:=J.h2;have:=qn J.b5;omega) ζ (by have:=aN.o;omega) (by have:=qn J.b5;omega) ?_;intro v10 w10 aB Y bC;have ba:qg (λb=>b=R∨v.ownBlock=some b) wr w10:=a9.trans ⟨Y.os,Y.tape,Y.output,Y.size,λk bx bN=>Y.block k bx (λe=>bN (Or.inr e.symm))⟩;have bH:=κ (J.put (by rfl) aB Y);have cr:w10.cell? ⟨I,7,none⟩=some v:=by
    have:w10.heap[I]? =_:=(Y.block I (qn J.b5) (λe=>by have:=J.row.ge e.symm;omega)).trans J.b5;exact qb this 7 rfl
   have bR:w10.frozen? ⟨I,7,none⟩=false:=by
    have:w10.heap[I]? =_:=(Y.block I (qn J.b5) (λe=>by have:=J.row.ge e.symm;omega)).trans J.b5;exact qd this 7
   obtain⟨cc,bT,bZ,rfl,au,ar⟩:=aB.shape;clear au ar aB Y bC;refine⟨qi ba,H _ _ ?_⟩;clear H K;go_simp
   iterate 1 (refine qE rfl rfl (qi ba) ?_;intro K H;go_big_quiet_op;go_big_quiet_on)
   (refine Qe ?_;intro K H)
   refine H _ _ ?_;clear H K;refine qA ?_;go_wp2;go_roundw
   case rel=>exact⟨j+1,τ,by go_num,⟨_,_,_,bH.o,by (have:=aN.o;simp;omega),bt.o,bM.o⟩⟩
   case measure=>simp[intOf];omega
  ·obtain rfl:j=G:=by omega
   rw[Nat.sub_self] at ab ac;have ab:(js j s0).1=bl:=by rw[ab];exact List.append_nil _
   have ac:(js j s0).2=s:=ac;have aa:=bK.o;rw[ab,ac] at aa;unfold yZ at aa;have d:=U.o;have bq: ¬(j:Int)<k:=by rw[av.o];omega
   obtain⟨ah,am,ai,rfl,au,ar⟩:=d.row.shape;have bE:=κ (d.row.sl ζ);have bp:Hid (∀b,(δ ah am ai).ownBlock=some b-> ¬b=w.heap.size+1):=κ (λb an e=>by have:=d.row.ge an;have:=d.h1;have:=d.h2;omega);have bJ:Hid (jX w (δ ah am ai)):=κ (λb an=>by have:=d.row.ge an;have:=d.h1;have:=d.h2;omega);have aT:=κ d.more;clear ab ac au ar;have bW:=β0 d.b5;have co:=β1 d.b5;have p2:=β2 d.b5;have cv:=β3 d.b5;have bU:=β4 d.b5;have ce:=β5 d.b5;have cu:=β6 d.b5;have ct:=β7 d.b5;have aM:=β0 d.b1;have z0:=qd d.b1 0;have aL:=β1 d.b1;have ck:=qd d.b1 1;have aR:=β2 d.b1;have cg:=qd d.b1 2;have bn:=β3 d.b1;have z3:=qd d.b1 3;have bi:=β4 d.b1;have z4:=qd d.b1 4;have bb:=β5 d.b1;have z5:=qd d.b1 5;have aK:=β6 d.b1;have cq:=qd d.b1 6;have aH:=β7 d.b1;have bR:=qd d.b1 7;by_cases he:wM s=0
   ·rw[if_pos he] at aa;have ad:=κ aa;clear aa d
    go_wp2_with (go_at_call 61;(go_call JD (s:=s) U.o.rd as e bG ⟨rfl,rfl⟩;rw[he]))
    (refine bodyPost_ret (v:= .tuple #[θ #[μ snd,ω (num (tkB B 4)),ω inf.sec,ω inf.frac,ω inf.stamp,ω inf.pkts,ω inf.octs,δ ah am ai],ι 0]) ?rr3 rfl ?_;(case rr3=>(simp[results,results241,go_sem,aM,aL,aR,bn,bi,bb,aK,aH])))
    refine⟨⟨δ ah am ai,by first | (rw[<-ad.o];done) | (rw[<-ad.o];rfl), ?_⟩,((((((((aT.o.st η _).st η _).st η _).st η _).st η _).st η _).st η _).st η _)⟩;rw[<-ad.o];exact⟨Yv bE.o bp.o ((((((((qg.refl (λb=>b=w.heap.size+1) _).set rfl _).set rfl _).set rfl _).set rfl _).set rfl _).set rfl _).set rfl _ |>.set rfl _),bJ.o⟩
   ·rw[if_neg he] at aa;have ad:=κ aa;have cj:(wM s != 0)=true:=by simpa using he
    clear aa d
    go_wp2_with (go_at_call 61;(go_call JD (s:=s) U.o.rd as e bG ⟨rfl,rfl⟩))
    (refine bodyPost_ret (v:= .tuple #[Γd,ι (wM s)]) ?rr4 rfl ?_;(case rr4=>(simp[results,results241,go_sem,aM,aL,aR,bn,bi,bb,aK,aH])))
    refine⟨⟨δ none 0 0,by first | (rw[<-ad.o];done) | (rw[<-ad.o];rfl), ?_⟩,((((((((aT.o.st η _).st η _).st η _).st η _).st η _).st η _).st η _).st η _)⟩;rw[<-ad.o];exact⟨SlP.nil _ _ _,jX.nil w⟩
theorem We {w:World} {vb:Value} (c:qQ) (U:SlI .u8 w vb c.2.2.1) (aa:xk c) (I:c.2.2.1.length<=1000000):
  Calls prog 241 #[θ #[υ c.1,υ c.2.1,vb]] w λe w'=>(∃vb,e= .returned (.tuple #[θ #[μ (qG c).1.snd,ω (qG c).1.src,ω (qG c).1.inf.sec,ω (qG c).1.inf.frac,ω (qG c).1.inf.stamp,ω (qG c).1.inf.pkts,ω (qG c).1.inf.octs,vb],ι (qG c).2])/\SlP 7 Yj w' vb (qG c).1.bl/\jX w vb)/\qa w w':=by
 obtain⟨k,t,B,⟨⟩⟩:=c;obtain⟨⟨ac,ab⟩,_,J⟩:=aa;simp only at *;have M:=κ U;obtain⟨G,H,rfl,_⟩:=U;cases hr:jx (k,t,B,()) with
 | false=>
  have e:qG (k,t,B,())=(Qh,1):=by unfold qG;rw[if_pos hr]
  rw[e];exact(Du k t B G H M (κ J) I (κ hr)).mono λe w' ⟨N,O⟩=>⟨⟨_,N,SlP.nil _ _ _,jX.nil w⟩,O⟩
 | true=>
  have Y:=((zO _).1 hr).1;simp only at Y;obtain⟨d,rfl⟩: ∃n:Nat,k=n:=⟨k.toNat,τ⟩;by_cases h200:t=200
  ·subst h200;have e:qG ((d:Int),200,B,())=yZ ⟨true,num (tkB B 4),(jA (tkL B 4,tkE B 4 0)).1,(js d (jA (tkL B 4,tkE B 4 0)).2).1⟩ (js d (jA (tkL B 4,tkE B 4 0)).2).2:=by
    unfold qG;rw[if_neg (by rw[hr];simp),if_pos rfl];rfl
   exact XL d 200 true (jA (tkL B 4,tkE B 4 0)).1 (jA (tkL B 4,tkE B 4 0)).2 B G H _ M (κ J) I τ (κ hr) rfl rfl (κ e.symm)
  ·by_cases h201:t=201
   ·subst h201;have e:qG ((d:Int),201,B,())=yZ ⟨false,num (tkB B 4),Jj,(js d (tkL B 4,tkE B 4 0)).1⟩ (js d (tkL B 4,tkE B 4 0)).2:=by
     unfold qG;rw[if_neg (by rw[hr];simp),if_neg (show ¬(201:Int)=200 by decide),if_pos rfl];rfl
    exact XL d 201 false Jj (tkL B 4,tkE B 4 0) B G H _ M (κ J) I τ (κ hr) rfl rfl (κ e.symm)
   ·have e:qG ((d:Int),t,B,())=(Qh,5):=by unfold qG;rw[if_neg (by rw[hr];simp),if_neg h200,if_neg h201]
    rw[e];exact(Y8 (d:Int) t B G H M (κ J) I (κ hr) h200 h201).mono λe w' ⟨N,O⟩=>⟨⟨_,N,SlP.nil _ _ _,jX.nil w⟩,O⟩
theorem qg.cons {b:Nat} {w w':World} (h:qg (λk=>k=b) w w') (i:Nat) (v:Value):qg (λk=>k=b) w (w'.setCell ⟨b,i,none⟩ v):=h.set (p:=⟨b,i,none⟩) rfl v
theorem Jt {w:World} {b:Nat} {t:TypeId} {a0 G d a3 a4:Value} (h:w.heap[b]? =some (.cells #[a0,G,d,a3,a4] t (0,0))) (v0 v1 v2 v3 v4:Value):(((((w.setCell ⟨b,0,none⟩ v0).setCell ⟨b,1,none⟩ v1).setCell ⟨b,2,none⟩ v2).setCell ⟨b,3,none⟩ v3).setCell ⟨b,4,none⟩ v4).heap[b]? =some (.cells #[v0,v1,v2,v3,v4] t (0,0)):=by
 have h:=qB (cs':= #[v0,G,d,a3,a4]) (qp h 0 v0) rfl;have h:=qB (cs':= #[v0,v1,d,a3,a4]) (qp h 1 v1) rfl;have h:=qB (cs':= #[v0,v1,v2,a3,a4]) (qp h 2 v2) rfl;have h:=qB (cs':= #[v0,v1,v2,v3,a4]) (qp h 3 v3) rfl;exact qB (qp h 4 v4) rfl
theorem qg.st5 (w:World) (b:Nat) (v0 v1 v2 v3 v4:Value):qg (λk=>k=b) w (((((w.setCell ⟨b,0,none⟩ v0).setCell ⟨b,1,none⟩ v1).setCell ⟨b,2,none⟩ v2).setCell ⟨b,3,none⟩ v3).setCell ⟨b,4,none⟩ v4):=((((((qg.refl (λk=>k=b) w).cons 0 v0).cons 1 v1).cons 2 v2).cons 3 v3).cons 4 v4)
theorem kG {w:World} {b:Nat} {t:TypeId} {a0 G d a3 a4:Value} (h:w.heap[b]? =some (.cells #[a0,G,d,a3,a4] t (0,0))):
  w.cell? ⟨b,0,none⟩=some a0/\w.cell? ⟨b,1,none⟩=some G/\w.cell? ⟨b,2,none⟩=some d/\w.cell? ⟨b,3,none⟩=some a3/\w.cell? ⟨b,4,none⟩=some a4:=
 ⟨qb h 0 rfl,qb h 1 rfl,qb h 2 rfl,qb h 3 rfl,qb h 4 rfl⟩
theorem Ws {w:World} {b:Nat} {cs:Array Value} {t:TypeId} (h:w.heap[b]? =some (.cells cs t (0,0))):
  w.frozen? ⟨b,0,none⟩=false/\w.frozen? ⟨b,1,none⟩=false/\w.frozen? ⟨b,2,none⟩=false/\w.frozen? ⟨b,3,none⟩=false/\w.frozen? ⟨b,4,none⟩=false:=
 ⟨qd h 0,qd h 1,qd h 2,qd h 3,qd h 4⟩
theorem Ju {S:Nat->Prop} {w w':World} {v:Value} {l:List (Int×Int)} (h:SlP 2 Vf w v l) (O: ∀b,v.ownBlock=some b-> ¬S b) (a:qg S w w'):SlP 2 Vf w' v l:=by
 obtain⟨M,cap,rfl,aa,I,H⟩:=h;refine⟨M,cap,rfl,aa,λi hi=> ?_,H⟩;obtain⟨b,G,cs,rfl,d,J,N,Y⟩:=I i hi;exact⟨b,G,cs,rfl,Nat.lt_of_lt_of_le d a.size,J,λj U=>by rw[a.cells b _ d (O b rfl)];exact N j U,Y⟩
structure MdJ (w0 w:World) (R Bm:Nat) (C:Nat->Prop) (o0 o1:Obj) (cs:Array Value) (s:RdS):Prop where
 rd:qu w R s.1 s.2 C
 b0:w.heap[w0.heap.size]? =some o0
 b1:w.heap[w0.heap.size+1]? =some o1
 bm:w.heap[Bm]? =some (.cells cs 246 (0,0))
 more:qa w0 w
 h1:w0.heap.size+1<Bm
 h2:Bm<R
 hC: ∀g,C g->Bm<g
section
variable {w0 w w':World} {R Bm:Nat} {C:Nat->Prop} {o0 o1:Obj} {cs:Array Value} {s s':RdS}
theorem MdJ.read (h:MdJ w0 w R Bm C o0 o1 cs s) (r:qu w' R s'.1 s'.2 C) (a:qg (λb=>b=R) w w'):MdJ w0 w' R Bm C o0 o1 cs s':=by
 have h1:=h.h1;have h2:=h.h2;exact⟨r,a.blk h.b0 τ,a.blk h.b1 τ,a.blk h.bm τ,Jv a h.more τ,h1,h2,h.hC⟩
theorem MdJ.set (h:MdJ w0 w R Bm C o0 o1 cs s) (i:Nat) (x:Value):MdJ w0 (w.setCell ⟨Bm,i,none⟩ x) R Bm C o0 o1 (cs.setIfInBounds i x) s:=by
 have h1:=h.h1;have h2:=h.h2;have a:qg (λb=>b=Bm) w (w.setCell ⟨Bm,i,none⟩ x):=(qg.refl (λb=>b=Bm) w).set (p:=⟨Bm,i,none⟩) rfl x;exact⟨h.rd.off a τ (λg d e=>by have:=h.hC g d;omega),a.blk h.b0 τ,a.blk h.b1 τ,qp h.bm i x,qg.to_more h.more a (λk G=>by omega),h1,h2,h.hC⟩
theorem MdJ.eq {cs':Array Value} (h:MdJ w0 w R Bm C o0 o1 cs s) (e:cs=cs'):MdJ w0 w R Bm C o0 o1 cs' s:=e▸h
end
theorem Er (a b:Int) (s:RdS):vD 1 a b s=vX ⟨1,a,b,[],[]⟩ s:=by unfold vD;rw[if_neg ζ,if_neg ζ]
theorem Eq (a b:Int) (s:RdS):vD 2 a b s=vX ⟨2,a,b,(jm s.1.length [] (zz b s)).1,[]⟩ (jm s.1.length [] (zz b s)).2:=by unfold vD;rw[if_pos rfl]
theorem Ep (a b:Int) (s:RdS):vD 3 a b s=vX ⟨3,a,b,[],(jc s.1.length [] (xK s)).1⟩ (jc s.1.length [] (xK s)).2:=by unfold vD;rw[if_neg ζ,if_pos rfl]
theorem Z3 (b:Int) (s:RdS):(zz b s).1.length<=s.1.length:=by
 unfold zz;split
 ·exact vH s 2
 ·exact Nat.le_refl _
theorem uK: ∀(n m:Nat) (acc:List (Int×Int)) (s:RdS),s.1.length<=n->n<=m->jm m acc s=jm n acc s
 | 0,m,acc,s,h,_=>by
  obtain⟨l,e⟩:=s;obtain rfl:l=[]:=List.eq_nil_of_length_eq_zero (by simpa using h);rw[zE];rfl
 | n+1,m,acc,s,h,hm=>by
  obtain⟨m,rfl⟩: ∃k,m=k+1:=⟨m-1,τ⟩;by_cases hs:s.1=[]
  ·obtain⟨l,e⟩:=s;simp only at hs;subst hs;rw[zE,zE]
  ·rw[yg hs,yg hs];exact uK n m _ _ (by have:=Xo hs;omega) τ
theorem Dt {w:World} (n t:Int) (B:List Int) (G:Option Addr) (d:Nat) (aa:Hid (SlI .u8 w (δ G B.length d) B)) (ah:B.length<=1000000) (U:Hid (jx (n,t,B,())=false)):
  Calls prog 242 #[θ #[υ n,υ t,δ G B.length d]] w λe w'=>e= .returned (.tuple #[Γg,ι 1])/\qa w w':=by
 have ac:=κ (xR (w:=(w.alloc (.cells #[υ n,υ t,δ G B.length d] 254)).alloc (.cells Γg 246)) (n,t,B,()) (aa.o.keep ((qa.alloc _ _).al _)) ah);have ai:=κ (qC (w:=w.alloc (.cells #[υ n,υ t,δ G B.length d] 254)) (n:=w.heap.size+1) (o:=(.cells Γg 246)) η)
 go_enter func242,ntmps242
 go_wp2_with (go_at_call 203;(go_call ac.o as e N ⟨rfl,I⟩;rw[U.o];have H:=κ (qc I ai.o);have ae:=κ (((qa.alloc w (.cells #[υ n,υ t,δ G B.length d] 254)).al (.cells Γg 246)).trans I);clear I;obtain⟨au,ap,an,ar,am⟩:=kG H.o;obtain⟨ak,aq,ao,av,aj⟩:=Ws H.o))
 have M:=Jt H.o (ι 0) (ω 0) (ω 0) (δ none 0 0) (δ none 0 0);have a5:=qg.st5 N (w.heap.size+1) (ι 0) (ω 0) (ω 0) (δ none 0 0) (δ none 0 0);have O:=qg.to_more ae.o a5 (λb e=>by omega);obtain⟨WF,J⟩:=ν ((((((N.setCell ⟨w.heap.size+1,0,none⟩ (ι 0)).setCell ⟨w.heap.size+1,1,none⟩ (ω 0)).setCell ⟨w.heap.size+1,2,none⟩ (ω 0)).setCell ⟨w.heap.size+1,3,none⟩ (δ none 0 0)).setCell ⟨w.heap.size+1,4,none⟩ (δ none 0 0)));rw[J] at M O ⊢ a5;clear J;obtain⟨ag,Y,af,ad,ab⟩:=kG M
 (refine bodyPost_ret (v:= .tuple #[Γg,ι 1]) ?rr1 rfl ?_;(case rr1=>(simp[results,results242,go_sem,ag,Y,af,ad,ab])))
 exact⟨rfl,O⟩
theorem KA {w:World} (n t:Int) (B:List Int) (G:Option Addr) (d:Nat) (ae:Hid (SlI .u8 w (δ G B.length d) B)) (aq:B.length<=1000000) (Y:Hid (jx (n,t,B,())=true)) (ac:Hid (zy (n,t,B,())=0)):
  Calls prog 242 #[θ #[υ n,υ t,δ G B.length d]] w λe w'=>e= .returned (.tuple #[Γg,ι 5])/\qa w w':=by
 have ah:=κ (xR (w:=(w.alloc (.cells #[υ n,υ t,δ G B.length d] 254)).alloc (.cells Γg 246)) (n,t,B,()) (ae.o.keep ((qa.alloc _ _).al _)) aq);have ao:=κ (qs (qj w (.cells #[υ n,υ t,δ G B.length d] 254)) (.cells Γg 246));have ar:=κ (qC (w:=w.alloc (.cells #[υ n,υ t,δ G B.length d] 254)) (n:=w.heap.size+1) (o:=(.cells Γg 246)) η)
 go_enter func242,ntmps242
 go_wp2_with (first | (go_at_call 203;(go_call ah.o as e aD ⟨rfl,H⟩;rw[Y.o];have I:=κ (qc H ao.o);have ad:=κ (qc H ar.o);have aj:=κ (((qa.alloc w (.cells #[υ n,υ t,δ G B.length d] 254)).al (.cells Γg 246)).trans H);clear H;have ap:=β0 I.o;have an:=β1 I.o;have aa:=β2 I.o)) | (go_at_call 261;(go_call XN n t B G d _ as e w4 ⟨rfl,M⟩;rw[ac.o];have J:=κ (qs (qc M ad.o) (.cells Γg 246));have af:=κ ((aj.o.trans M).al (.cells Γg 246));clear M ap an aa;obtain⟨aC,az,ax,aB,aw⟩:=kG J.o;obtain⟨av,aA,ay,aE,au⟩:=Ws J.o)))
 generalize w4.alloc (.cells Γg 246)=w5 at *;have O:=Jt J.o (ι 0) (ω 0) (ω 0) (δ none 0 0) (δ none 0 0);have a5:=qg.st5 w5 (w.heap.size+1) (ι 0) (ω 0) (ω 0) (δ none 0 0) (δ none 0 0);have U:=qg.to_more af.o a5 (λb e=>by omega);obtain⟨WF,N⟩:=ν ((((((w5.setCell ⟨w.heap.size+1,0,none⟩ (ι 0)).setCell ⟨w.heap.size+1,1,none⟩ (ω 0)).setCell ⟨w.heap.size+1,2,none⟩ (ω 0)).setCell ⟨w.heap.size+1,3,none⟩ (δ none 0 0)).setCell ⟨w.heap.size+1,4,none⟩ (δ none 0 0)));rw[N] at O U ⊢ a5;clear N;obtain⟨am,ab,ak,ai,ag⟩:=kG O
 (refine bodyPost_ret (v:= .tuple #[Γg,ι 5]) ?rr2 rfl ?_;(case rr2=>(simp[results,results242,go_sem,am,ab,ak,ai,ag])))
 exact⟨rfl,U⟩
theorem Cz {w:World} (n t k:Int) (be:k=1∨k=2∨k=3) (B:List Int) (af:Option Addr) (ae:Nat) (D:Msg×Int) (bt:Hid (SlI .u8 w (δ af B.length ae) B)) (bd:Hid (Byt B)) (bp:B.length<=1000000) (bJ:Hid (jx (n,t,B,())=true)) (ce:Hid (zy (n,t,B,())=k))
  (bk:Hid (vD k (xP (B,0)) (xP (tkS (B,0) 4)) (tkS (tkS (B,0) 4) 4)=D)):
  Calls prog 242 #[θ #[υ n,υ t,δ af B.length ae]] w λe w'=>(∃va vl,e= .returned (.tuple #[θ #[ι D.1.kind,ω D.1.snd,ω D.1.med,va,vl],ι D.2])/\DG w' va vl D.1/\jX w va/\jX w vl)/\qa w w':=by
 have bw:=κ (xR (w:=(w.alloc (.cells #[υ n,υ t,δ af B.length ae] 254)).alloc (.cells Γg 246)) (n,t,B,()) (bt.o.keep ((qa.alloc _ _).al _)) bp);have bl:=κ (qs (qj w (.cells #[υ n,υ t,δ af B.length ae] 254)) (.cells Γg 246));have bi:=κ (qC (w:=w.alloc (.cells #[υ n,υ t,δ af B.length ae] 254)) (n:=w.heap.size+1) (o:=(.cells Γg 246)) η);obtain⟨aj,aT⟩: ∃x,num (tkB B 4)=x:=⟨_,rfl⟩;obtain⟨G,aD⟩: ∃x,num (tkB (tkS (B,0) 4).1 4)=x:=⟨_,rfl⟩;obtain⟨d,aP⟩: ∃x,tkS (tkS (B,0) 4) 4=x:=⟨_,rfl⟩;have ci:Hid (vD k aj G d=D):=κ (by rw[<-aT,<-aD,<-aP];exact bk.o);have bG:=κ aT;have ba:=κ aD;have bH:=κ aP;have cz:0<=G:=by
  have:=Jx (s:=tkS (B,0) 4) (jK (s:=(B,0)) bd.o 4);rw[<-aD];exact this.1
 clear aT aD aP bk;have ct: ¬k=0:=by omega
 have bT:=κ be;clear be
 go_enter func242,ntmps242
 go_upto_region 9 with (first | (go_at_call 203;(go_call bw.o as e cy ⟨rfl,aE⟩;rw[bJ.o];have aw:=κ (qc aE bl.o);have aN:=κ (qc aE bi.o);have bE:=κ (((qa.alloc w (.cells #[υ n,υ t,δ af B.length ae] 254)).al (.cells Γg 246)).trans aE);clear aE;have cb:=β0 aw.o;have cj:=β1 aw.o;have aV:=β2 aw.o)) | (go_at_call 261;(go_call XN n t B af ae _ as e w4 ⟨rfl,au⟩;rw[ce.o];have aM:=κ (qs (qc au aw.o) (.cells #[ι k,ω 0,ω 0,(),()] 246));have bq:=κ (qs (qc au aN.o) (.cells #[ι k,ω 0,ω 0,(),()] 246));have aO:=κ ((bE.o.trans au).al (.cells #[ι k,ω 0,ω 0,(),()] 246));have bC:=κ (qj w4 (.cells #[ι k,ω 0,ω 0,(),()] 246));have bj:=κ (Nat.lt_of_lt_of_le (qn aN.o) au.size);clear au cb cj aV;have aV:=β2 aM.o)) | (go_at_call 53;(go_call km _ B _ (bt.o.keep aO.o) bd.o bp as e w6 ⟨R,rfl,bb,bI,av⟩;have aS:Hid (MdJ w w6 R w4.heap.size (λg=>(w4.alloc (.cells #[ι k,ω 0,ω 0,(),()] 246)).heap.size<=g/\g<w6.heap.size) (.cells #[υ n,υ t,δ af B.length ae] 254) (.cells Γg 246) #[ι k,ω 0,ω 0,(),()] (B,0)):=κ ⟨bI,qc av aM.o,qc av bq.o,qc av bC.o,aO.o.trans av,bj.o,by (have:=bb;simp at this;omega),λg h=>by (have:=h.1;simp at this;omega)⟩;clear bb bI av aV)) | (go_at_call 56;((with_reducible refine(jD aS.o.rd).mono ?_);rintro e co ⟨rfl,bB,bz⟩;rw[bG.o];have aB:=κ (aS.o.read (s':=tkS (B,0) 4) bB bz);clear bB bz;have cd:=β1 aB.o.bm;have bZ:=qd aB.o.bm 1;have aW:=κ (aB.o.set 1 (ω aj)))) | (go_at_call 56;((with_reducible refine(jD aW.o.rd).mono ?_);rintro e w8 ⟨rfl,bF,bg⟩;rw[ba.o];have aC:=κ (aW.o.read (s':=tkS (tkS (B,0) 4) 4) bF bg);clear bF bg cd bZ;have aZ:=β2 aC.o.bm;have bX:=qd aC.o.bm 2;have H:=κ ((aC.o.set 2 (ω G)).eq (cs':= #[ι k,ω aj,ω G,(),()]) rfl);have bs:=β0 H.o.bm)))
 rw[bH.o] at H;generalize bY:(λg=>(w4.alloc (.cells #[ι k,ω 0,ω 0,(),()] 246)).heap.size<=g/\g<w6.heap.size)=C at *;clear bY bl bi aw aN bE aM bq aO bC aS aB aW aC bw bG ba bH aZ bX bj;generalize w4.heap.size=Bm at *;generalize w8.setCell ⟨Bm,2,none⟩ (ω G)=w9 at *;have bs:=β0 H.o.bm
 go_upto_block 0 with fail
 go_cut [] from 27 to 62 (λaq=> ∃(ab ai:Option Addr) (aa ah ag ac:Nat) (S:RdS) (m:Msg),MdJ w aq R Bm C (.cells #[υ n,υ t,δ af B.length ae] 254) (.cells Γg 246) #[ι k,ω aj,ω G,δ ab aa ag,δ ai ah ac] S/\vD k aj G d=vX m S/\(m.kind=k/\m.snd=aj/\m.med=G)/\DG aq (δ ab aa ag) (δ ai ah ac) m/\(jX w (δ ab aa ag)/\jX w (δ ai ah ac))/\ ∀b,((δ ab aa ag).ownBlock=some b∨(δ ai ah ac).ownBlock=some b)-> ¬b=w.heap.size+1)
 case first=>
  rcases bT.o with rfl | rfl | rfl
  ·go_wp2;go_meet;exact⟨_,_,_,_,_,_,d,_,H.o,Er _ _ _,⟨rfl,rfl,rfl⟩,⟨SlP.nil _ _ _,SlI.nil _ _⟩,⟨jX.nil w,jX.nil w⟩,λb h=>by rcases h with h | h<;>cases h⟩
  ·have aZ:=β2 H.o.bm
   go_upto_region 11 with fail
   obtain⟨Q,bx⟩: ∃Q:Bool,Q=decide (¬G=0∨d.1.length=0∨ ¬d.1.length%8=0):=⟨_,rfl⟩;have an:=κ bx;clear bx
   go_cut [44] from 31 to 43 (λv aq=>v= μ Q/\w9=aq)
   case first=>
    by_cases c1:G=0
    ·have bm:(G != 0)=false:=by simpa using c1
     by_cases c2:d.1.length=0
     ·have cl:((d.1.length:Int)==0)=true:=eqB τ;have Y:Hid (true=Q):=κ (by rw[an.o];exact(decide_eq_true (Or.inr (Or.inl c2))).symm);clear c1 c2
      go_wp2_with (go_at_call 59;(go_call yd H.o.rd as e w10 ⟨rfl,rfl⟩))
      go_meet;rw[<-Y.o];exact⟨rfl,rfl⟩
     ·have cl:((d.1.length:Int)==0)=false:=neB τ;by_cases c3:d.1.length%8=0
      ·have bN:((d.1.length:Int)%8 != 0)=false:=by simp;omega
       have Y:Hid (false=Q):=κ (by rw[an.o];exact(decide_eq_false (by rintro(h | h | h);exact h c1;exact c2 h;exact h c3)).symm);clear c1 c2 c3
       go_wp2_with (go_at_call 59;(go_call yd H.o.rd as e w10 ⟨rfl,rfl⟩))
       go_meet;rw[<-Y.o];exact⟨rfl,rfl⟩
      ·have bN:((d.1.length:Int)%8 != 0)=true:=by simp;omega
       have Y:Hid (true=Q):=κ (by rw[an.o];exact(decide_eq_true (Or.inr (Or.inr c3))).symm);clear c1 c2 c3
       go_wp2_with (go_at_call 59;(go_call yd H.o.rd as e w10 ⟨rfl,rfl⟩))
       go_meet;rw[<-Y.o];exact⟨rfl,rfl⟩
    ·have bm:(G != 0)=true:=by simpa using c1
     have Y:Hid (true=Q):=κ (by rw[an.o];exact(decide_eq_true (Or.inl c1)).symm);clear c1
     go_wp2_with (go_at_call 59;(go_call yd H.o.rd as e w10 ⟨rfl,rfl⟩))
     go_meet;rw[<-Y.o];exact⟨rfl,rfl⟩
   case rest=>
   obtain⟨rfl,rfl⟩:=hcut
   go_upto_if 44 with fail
   go_cut [] from 45 to 46 (λaq=>MdJ w aq R Bm C (.cells #[υ n,υ t,δ af B.length ae] 254) (.cells Γg 246) #[ι 2,ω aj,ω G,(),()] (zz G d))
   case first=>
    have ch:=κ (zo (s:=d) H.o.rd 2);cases Q with
    | true=>
     have Y:Hid (zz G d=wrS d 2):=κ (by unfold zz;rw[if_pos (of_decide_eq_true an.o.symm)])
     go_wp2_with (first | (go_at_call 57;(go_call ch.o as e cr ⟨rfl,bv,bh⟩;have cg:=κ (H.o.read (s':=wrS d 2) bv bh);clear bv bh)))
     go_meet;rw[Y.o];exact cg.o
    | false=>
     have Y:Hid (zz G d=d):=κ (by unfold zz;rw[if_neg (of_decide_eq_false an.o.symm)]);go_wp2;go_meet;rw[Y.o];exact H.o
   case rest=>
   have ap:=κ hcut;clear hcut H aZ an;have bM:=κ (Z3 G d);have bV:R<wc.heap.size:=by obtain⟨v,aI,_⟩:=ap.o.rd.blk;exact qn aI
   go_wp2_with (go_at_call 262;(go_call Y7 (s0:=zz G d) ap.o.rd bV as e az ⟨v12,rfl,U⟩;have ad:=κ U;have ao:=κ (ap.o.read (s':=(jm (zz G d).1.length [] (zz G d)).2) (U.rd.mono (λg h=>h.1)) U.away);obtain⟨N,M,J,rfl,aY,aH⟩:=U.row.shape;clear aY aH U;have cx:=β3 ao.o.bm;have z3:=qd ao.o.bm 3;have I:=κ ((ao.o.set 3 (δ N M J)).eq (cs':= #[ι 2,ω aj,ω G,δ N M J,()]) rfl)))
   have aL:Hid (SlP 2 Vf (az.setCell ⟨Bm,3,none⟩ (δ N M J)) (δ N M J) (jm (zz G d).1.length [] (zz G d)).1):=κ (Ju (ad.o.row.sl ζ) (λb O e=>by have:=ad.o.row.ge O;have:=qn ap.o.bm;omega) ((qg.refl (λb=>b=Bm) az).set (p:=⟨Bm,3,none⟩) rfl _));have aG:Hid (∀b,(δ N M J).ownBlock=some b-> ¬b=w.heap.size+1):=κ (λb O e=>by have:=ad.o.row.ge O;have:=qn ap.o.b1;omega);have aU:Hid (jX w (δ N M J)):=κ (λb O=>by have:=ad.o.row.ge O;have:=qn ap.o.b1;omega);have bK:=κ (uK (zz G d).1.length d.1.length [] (zz G d) (Nat.le_refl _) bM.o);go_meet;exact⟨_,_,_,_,_,_,_,_,I.o,(by rw[Eq,bK.o]),⟨rfl,rfl,rfl⟩,⟨aL.o,SlI.nil _ _⟩,⟨aU.o,jX.nil w⟩,λb h=>by rcases h with h | h;exact aG.o b h;cases h⟩
  ·go_wp2_with (go_at_call 263;(go_call Y6 (s0:=d) H.o.rd (by obtain⟨v,aI,_⟩:=H.o.rd.blk;exact qn aI) as e az ⟨v12,rfl,U⟩;have ad:=κ U;have ao:=κ (H.o.read (s':=(jc d.1.length [] (xK d)).2) (U.rd.mono (λg h=>h.1)) U.away);obtain⟨N,M,J,rfl,aY,aH⟩:=qT U.row;clear aY aH U;have cq:=β4 ao.o.bm;have z4:=qd ao.o.bm 4;have I:=κ ((ao.o.set 4 (δ N M J)).eq (cs':= #[ι 3,ω aj,ω G,(),δ N M J]) rfl)))
   have aL:Hid (SlI .u16 (az.setCell ⟨Bm,4,none⟩ (δ N M J)) (δ N M J) (jc d.1.length [] (xK d)).1):=κ (SlI.off (SlI.of_owns ad.o.row (Ma ad.o.row)) (λb O e=>by have:=jG ad.o.row O;have:=qn H.o.bm;omega) ((qg.refl (λb=>b=Bm) az).set (p:=⟨Bm,4,none⟩) rfl _));have aG:Hid (∀b,(δ N M J).ownBlock=some b-> ¬b=w.heap.size+1):=κ (λb O e=>by have:=jG ad.o.row O;have:=qn H.o.b1;omega);have aU:Hid (jX w (δ N M J)):=κ (λb O=>by have:=jG ad.o.row O;have:=qn H.o.b1;omega);go_meet;exact⟨_,_,_,_,_,_,_,_,I.o,(by rw[Ep]),⟨rfl,rfl,rfl⟩,⟨SlP.nil _ _ _,aL.o⟩,⟨jX.nil w,aU.o⟩,λb h=>by rcases h with h | h;cases h;exact aG.o b h⟩
 case rest=>
 obtain⟨ab,ai,aa,ah,ag,ac,S,m,bD,bf,⟨rfl,rfl,rfl⟩,bu,⟨bo,br⟩,bA⟩:=hcut;have I:=κ bD;have bc:=κ bu;have bO:=κ bo;have bL:=κ br;have bn:=κ bA;have ak:=ci.o;rw[bf] at ak;unfold vX at ak;clear bD bf bu bo br bA H bs;by_cases he:wM S=0
 ·rw[if_pos he] at ak;have am:=κ ak;have cc:=κ he;obtain⟨cp,cv,p2,cw,cn⟩:=kG I.o.bm;obtain⟨bS,bR,bW,ck,cf⟩:=kG I.o.b1;obtain⟨bP,ca,bQ,cm,bU⟩:=Ws I.o.b1;clear ak he
  go_wp2_with (go_at_call 61;(go_call JD (s:=S) I.o.rd as e ar ⟨rfl,aR⟩;subst aR;rw[cc.o]))
  have ay:=Jt I.o.b1 (ι m.kind) (ω m.snd) (ω m.med) (δ ab aa ag) (δ ai ah ac);have a5:=qg.st5 ar (w.heap.size+1) (ι m.kind) (ω m.snd) (ω m.med) (δ ab aa ag) (δ ai ah ac);have aA:=qg.to_more I.o.more a5 (λb e=>by omega);obtain⟨WF,ax⟩:=ν ((((((ar.setCell ⟨w.heap.size+1,0,none⟩ (ι m.kind)).setCell ⟨w.heap.size+1,1,none⟩ (ω m.snd)).setCell ⟨w.heap.size+1,2,none⟩ (ω m.med)).setCell ⟨w.heap.size+1,3,none⟩ (δ ab aa ag)).setCell ⟨w.heap.size+1,4,none⟩ (δ ai ah ac)));rw[ax] at ay aA ⊢ a5;clear ax;obtain⟨aX,aF,aK,aQ,aJ⟩:=kG ay
  (refine bodyPost_ret (v:= .tuple #[θ #[ι m.kind,ω m.snd,ω m.med,δ ab aa ag,δ ai ah ac],ι 0]) ?rr3 rfl ?_;(case rr3=>(simp[results,results242,go_sem,aX,aF,aK,aQ,aJ])))
  refine⟨⟨δ ab aa ag,δ ai ah ac,by first | (rw[<-am.o];done) | (rw[<-am.o];rfl), ?_⟩,aA⟩;rw[<-am.o];exact⟨⟨Ju bc.o.asks (λb h=>bn.o b (Or.inl h)) a5,SlI.off bc.o.lost (λb h=>bn.o b (Or.inr h)) a5⟩,bO.o,bL.o⟩
 ·rw[if_neg he] at ak;have am:=κ ak;have cu:(wM S != 0)=true:=by simpa using he
  obtain⟨bS,bR,bW,ck,cf⟩:=kG I.o.b1;obtain⟨bP,ca,bQ,cm,bU⟩:=Ws I.o.b1;clear ak he
  go_wp2_with (go_at_call 61;(go_call JD (s:=S) I.o.rd as e ar ⟨rfl,aR⟩;subst aR))
  have ay:=Jt I.o.b1 (ι 0) (ω 0) (ω 0) (δ none 0 0) (δ none 0 0);have a5:=qg.st5 ar (w.heap.size+1) (ι 0) (ω 0) (ω 0) (δ none 0 0) (δ none 0 0);have aA:=qg.to_more I.o.more a5 (λb e=>by omega);obtain⟨WF,ax⟩:=ν ((((((ar.setCell ⟨w.heap.size+1,0,none⟩ (ι 0)).setCell ⟨w.heap.size+1,1,none⟩ (ω 0)).setCell ⟨w.heap.size+1,2,none⟩ (ω 0)).setCell ⟨w.heap.size+1,3,none⟩ (δ none 0 0)).setCell ⟨w.heap.size+1,4,none⟩ (δ none 0 0)));rw[ax] at ay aA ⊢ a5;clear ax;obtain⟨aX,aF,aK,aQ,aJ⟩:=kG ay
  (refine bodyPost_ret (v:= .tuple #[Γg,ι (wM S)]) ?rr4 rfl ?_;(case rr4=>(simp[results,results242,go_sem,aX,aF,aK,aQ,aJ])))
  refine⟨⟨δ none 0 0,δ none 0 0,by first | (rw[<-am.o];done) | (rw[<-am.o];rfl), ?_⟩,aA⟩;rw[<-am.o];exact⟨⟨SlP.nil _ _ _,SlI.nil _ _⟩,jX.nil w,jX.nil w⟩
theorem Wd {w:World} {vb:Value} (c:qQ) (N:SlI .u8 w vb c.2.2.1) (U:xk c) (H:c.2.2.1.length<=1000000):
  Calls prog 242 #[θ #[υ c.1,υ c.2.1,vb]] w λe w'=>(∃va vl,e= .returned (.tuple #[θ #[ι (qJ c).1.kind,ω (qJ c).1.snd,ω (qJ c).1.med,va,vl],ι (qJ c).2])/\DG w' va vl (qJ c).1/\jX w va/\jX w vl)/\qa w w':=by
 obtain⟨n,t,B,⟨⟩⟩:=c;obtain⟨_,_,O⟩:=U;simp only at *;have I:=κ N;obtain⟨d,G,rfl,_⟩:=N;cases hr:jx (n,t,B,()) with
 | false=>
  have e:qJ (n,t,B,())=(JI,1):=by unfold qJ;rw[if_pos hr]
  rw[e];exact(Dt n t B d G I H (κ hr)).mono λe w' ⟨J,M⟩=>⟨⟨_,_,J,⟨SlP.nil _ _ _,SlI.nil _ _⟩,jX.nil w,jX.nil w⟩,M⟩
 | true=>
  by_cases h0:zy (n,t,B,())=0
  ·have e:qJ (n,t,B,())=(JI,5):=by unfold qJ;rw[if_neg (by rw[hr];simp),if_pos h0]
   rw[e];exact(KA n t B d G I H (κ hr) (κ h0)).mono λe w' ⟨J,M⟩=>⟨⟨_,_,J,⟨SlP.nil _ _ _,SlI.nil _ _⟩,jX.nil w,jX.nil w⟩,M⟩
  ·have e:qJ (n,t,B,())=vD (zy (n,t,B,())) (xP (B,0)) (xP (tkS (B,0) 4)) (tkS (tkS (B,0) 4) 4):=by unfold qJ;rw[if_neg (by rw[hr];simp),if_neg h0]
   rw[e];exact Cz n t _ (UP h0).2 B d G _ I (κ O) H (κ hr) (κ rfl) (κ rfl)
section
open Go.RowKit Go.Lib
structure Gq (w:World) (vb va vl vo:Value) (x:Itm):Prop where
 bl:SlP 7 Yj w vb x.rep.bl
 ms:DG w va vl x.msg
 bo:SlI .u8 w vo x.oth.2.2.1
def Hx (x:Itm) (vb va vl vo:Value):List Value:=[.int .i64 x.kind,.bool x.rep.snd,.int .u32 x.rep.src,.int .u32 x.rep.inf.sec,.int .u32 x.rep.inf.frac,.int .u32 x.rep.inf.stamp,.int .u32 x.rep.inf.pkts,.int .u32 x.rep.inf.octs,vb,.int .i64 x.msg.kind,.int .u32 x.msg.snd,.int .u32 x.msg.med,va,vl,.int .u8 x.oth.1,.int .u8 x.oth.2.1,vo]
def Qk:qL Itm:=λw cs x=> ∃vb va vl vo,cs=Hx x vb va vl vo/\Gq w vb va vl vo x/\Wu x
theorem Y0 {w w':World} {b o:Nat} {cs:List Value} (h:w.rangeAt b o cs) (m:qa w w') (G:b<w.heap.size):w'.rangeAt b o cs:=λj v d=>by
 rw[m.cells b _ G];exact h j v d
theorem jU {P:Program} {ops:Array Oper} {rest:List Oper} {o:Oper} {a:Act} {w:World} {Q:Exit->Act->World->Prop} (N:o.guard=none) (G:TypeId) (x y:Operand) (M:o.op= .store G x y)
  (H:World) (c d:Array Value) (I:w=H.alloc (.cells c G)) (U:a.eval x= γ H.heap.size) (O:a.eval y= θ d)
  (hi:(P.info? G).map (·.size)=some d.size) (Y:c.size=d.size) (aa:d.all (·.oneCell')=true)
  (h:wpList P ops Q rest (a.put o.dst undef) (H.alloc (.cells d G))):wpList P ops Q (o::rest) a w:=by
 subst I;refine wpList_plain N λK J=> ?_
 unfold Oper.wp execOp;simp only[M,U,O,Sem.run_bind,Sem.run_pure,Result.andThen_ok,run_storeAt_new H G c d hi Y aa];exact J _ _ h
theorem Mf {w:World} {v:Value} {l:List Itm} (h:SlP 17 Qk w v l): ∃I cap,v= δ I l.length cap/\(l.length:Int)<=9223372036854775807/\(∀i,i<l.length-> ∃b G Y N U aa M H O J,I=some ⟨b,G,none⟩/\b<w.heap.size/\
  w.rangeAt b (G+i* 17) (Hx (l.getD i wL) (δ Y (l.getD i wL).rep.bl.length N) (δ U (l.getD i wL).msg.asks.length aa) (δ M (l.getD i wL).msg.lost.length H) (δ O (l.getD i wL).oth.2.2.1.length J))/\
  Gq w (δ Y (l.getD i wL).rep.bl.length N) (δ U (l.getD i wL).msg.asks.length aa) (δ M (l.getD i wL).msg.lost.length H) (δ O (l.getD i wL).oth.2.2.1.length J) (l.getD i wL))/\ ∀x∈l,Wu x:=by
 obtain⟨I,cap,af,ai,ag,aj⟩:=id h;refine⟨I,cap,af,ai,λi hi=> ?_,Ei h (λcs y ⟨_,_,_,_,_,_,k⟩=>k)⟩;obtain⟨b,G,cs,e,ah,am,ad,vb,an,al,vo,rfl,d,ak⟩:=ag i hi;have ac:l.getD i wL=l[i]:=by simp[hi]
 rw[ac];generalize l[i]=x at *;obtain⟨Y,N,rfl,_⟩:=id d.bl;obtain⟨U,aa,rfl,_⟩:=id d.ms.asks;obtain⟨M,H,rfl,_⟩:=id d.ms.lost;obtain⟨O,J,rfl,_⟩:=id d.bo;refine⟨b,G,Y,N,U,aa,M,H,O,J,e,ah,λj v ab=> ?_,d⟩;have ae:j<17:=(List.getElem?_eq_some_iff.1 ab).1;rw[ad j ae];exact ab
theorem JC {w:World} {b:Nat} {t:TypeId} {a0 ab G a3 a4 a5 N H U a9 O aa d Y I M J:Value} (h:w.heap[b]? =some (.cells #[a0,ab,G,a3,a4,a5,N,H,U,a9,O,aa,d,Y,I,M,J] t (0,0))):
  (w.cell? ⟨b,0,none⟩=some a0/\w.cell? ⟨b,1,none⟩=some ab/\w.cell? ⟨b,2,none⟩=some G/\w.cell? ⟨b,3,none⟩=some a3/\w.cell? ⟨b,4,none⟩=some a4/\w.cell? ⟨b,5,none⟩=some a5/\w.cell? ⟨b,6,none⟩=some N/\w.cell? ⟨b,7,none⟩=some H/\w.cell? ⟨b,8,none⟩=some U)/\
  (w.cell? ⟨b,9,none⟩=some a9/\w.cell? ⟨b,10,none⟩=some O/\w.cell? ⟨b,11,none⟩=some aa/\w.cell? ⟨b,12,none⟩=some d/\w.cell? ⟨b,13,none⟩=some Y)/\(w.cell? ⟨b,14,none⟩=some I/\w.cell? ⟨b,15,none⟩=some M/\w.cell? ⟨b,16,none⟩=some J):=
 ⟨⟨qb h 0 rfl,qb h 1 rfl,qb h 2 rfl,qb h 3 rfl,qb h 4 rfl,qb h 5 rfl,qb h 6 rfl,qb h 7 rfl,qb h 8 rfl⟩,⟨qb h 9 rfl,qb h 10 rfl,qb h 11 rfl,qb h 12 rfl,qb h 13 rfl⟩,qb h 14 rfl,qb h 15 rfl,qb h 16 rfl⟩
end
section
open Go.RowKit Go.Lib
structure CY (x:Itm):Prop where
 bl:x.rep.bl.length<=100000
 asks:x.msg.asks.length<=100000
 lost:x.msg.lost.length<=100000
 oth:x.oth.2.2.1.length<=1000000
end
section
open Go.RowKit Go.Lib
theorem PR {l:List Int} {j:Nat} (h:j<l.length):l.drop j=l.getD j 0::l.drop (j+1):=by
 rw[List.drop_eq_getElem_cons h,List.getD_eq_getElem?_getD,List.getElem?_eq_getElem h,Option.getD_some]
theorem gh (l:List Int) (v:Value) (w:World) (U:SlI .i64 w v l):
  Calls prog 202 #[v] w λe w'=>e= .returned (ι (vg l))/\w=w':=by
 obtain⟨ab,cap,rfl,ac,J,_⟩:=U;have Y:=κ J;clear J
 go_enter func202,ntmps202
 go_wp2
 go_loop [7] (λH=> ∃j:Nat,j<=l.length/\H= ι j/\vg l=vg (l.drop j)) (λH=>l.length-(intOf H).toNat)
 case atStart=>exact⟨0,τ,rfl,rfl⟩
 case round=>
  obtain⟨j,af,rfl,I⟩:=hrel;have d:=κ I;clear I;by_cases hlt:j<l.length
  ·obtain⟨b,aa,rfl,ae,ad⟩:=Y.o j hlt;have M:=κ (PR hlt);have ag:(j:Int)<(l.length:Int):=by omega
   generalize l.getD j 0=x at *;by_cases hx:x=0
   ·have N:(x != 0)=false:=by simp[hx]
    have G:=κ hx;clear hx;go_wp2
    go_round
    case rel=>exact⟨j+1,τ,by go_num,by rw[d.o,M.o];show (if x=0 then _ else _)=_;rw[if_pos G.o]⟩
    case measure=>simp[intOf];omega
   ·have N:(x != 0)=true:=by simp[hx]
    have G:=κ hx;clear hx;go_wp2;go_ret;exact⟨by rw[d.o,M.o];show _=Ending.returned (ι (if x=0 then _ else _));rw[if_neg G.o];rfl,rfl⟩
  ·obtain rfl:j=l.length:=by omega
   have O:Hid (vg l=0):=κ (by rw[d.o,List.drop_length];rfl);go_wp2;go_ret;exact⟨by rw[O.o];rfl,rfl⟩
def Ww (w:World) (v vo:Value):Prop:=jX w v∨v=vo
theorem SlI.off2 {k:IntKind} {D:Nat->Prop} {w w':World} {v:Value} {l:List Int} (h:SlI k w v l) (H:l≠[]-> ∀b,v.ownBlock=some b-> ¬D b) (a:qg D w w'):SlI k w' v l:=by
 by_cases e:l=[]
 ·subst e;obtain⟨G,cap,rfl,I,J,d⟩:=h;exact⟨G,cap,rfl,I,λi hi=>by simp at hi,d⟩
 ·exact h.off (H e) a
theorem SlI.old {k:IntKind} {w:World} {v:Value} {l:List Int} (h:SlI k w v l) (H:l≠[]) {b:Nat} (d:v.ownBlock=some b):b<w.heap.size:=by
 obtain⟨O,cap,rfl,U,G,M⟩:=h;obtain⟨N,J,rfl,I,_⟩:=G 0 (List.length_pos_iff.2 H);injection d with d
 subst d;exact I
end
section
open Go.RowKit Go.Lib
theorem wG: ∀(n:Nat) (acc:List (Int×Int)) (s:RdS),s.1.length<=n->(jm n acc s).1.length<=acc.length+s.1.length
 | 0,acc,s,_=>Nat.le_add_right _ _
 | n+1,acc,s,h=>by
  by_cases hs:s.1=[]
  ·obtain⟨l,e⟩:=s;simp only at hs;subst hs;rw[zE];exact Nat.le_add_right _ _
  ·rw[yg hs];have G:=Xo hs;have d:=wG n (acc++[(wu s).1]) (wu s).2 τ;rw[List.length_append,List.length_singleton] at d;omega
theorem wF: ∀(n:Nat) (acc:List Int) (s:RdS),s.1.length<=n->(jc n acc s).1.length<=acc.length+17* s.1.length
 | 0,acc,s,_=>Nat.le_add_right _ _
 | n+1,acc,s,h=>by
  by_cases hs:s.1=[]
  ·obtain⟨l,e⟩:=s;simp only at hs;subst hs;rw[wE];exact Nat.le_add_right _ _
  ·rw[uJ hs];have G:=WK hs;have I:=VD acc (prS s).1 (prS s).2;have d:=wF n (acc++prN (prS s).1) (gm acc (prS s).1 (prS s).2) τ;have H:=(WM (prS s).1).2;rw[List.length_append] at d;omega
theorem Ps (s:RdS):(xK s).1.length<=s.1.length:=by
 unfold xK;split
 ·exact vH s 2
 ·exact Nat.le_refl _
theorem Kg {c:qQ} (h:c.2.2.1.length<=400):(qJ c).1.asks.length<=100000/\(qJ c).1.lost.length<=100000:=by
 have G: ∀(m:Msg) (s:RdS),m.asks.length<=100000/\m.lost.length<=100000->(vX m s).1.asks.length<=100000/\(vX m s).1.lost.length<=100000:=by
  intro m s h;unfold vX;split
  ·exact h
  ·exact⟨Nat.zero_le _,Nat.zero_le _⟩
 have I:(tkS (tkS (c.2.2.1,0) 4) 4).1.length<=400:=Nat.le_trans (uN _ _) (Nat.le_trans (uN _ _) h);unfold qJ;split
 ·exact⟨Nat.zero_le _,Nat.zero_le _⟩
 ·split
  ·exact⟨Nat.zero_le _,Nat.zero_le _⟩
  ·unfold vD;generalize tkS (tkS (c.2.2.1,0) 4) 4=s at *;split
   ·have d:=Z3 (xP (tkS (c.2.2.1,0) 4)) s;have H:=wG s.1.length [] (zz (xP (tkS (c.2.2.1,0) 4)) s) d;exact G _ _ ⟨by simp only[List.length_nil] at H ⊢;omega,Nat.zero_le _⟩
   ·split
    ·have d:=Ps s;have H:=wF s.1.length [] (xK s) d;exact G _ _ ⟨Nat.zero_le _,by simp only[List.length_nil] at H ⊢;omega⟩
    ·exact G _ _ ⟨Nat.zero_le _,Nat.zero_le _⟩
end
section
open Go.RowKit Go.Lib
theorem je.other {α:Type} {n:Nat} {R:qL α} {D D':Nat->Prop} {w:World} {base e:Nat} {v:Value} {L:List α} (h:je n R D w base e v L) (k: ∀b,D' b->D b∨w.heap.size<=b):je n R D' w base e v L:=by
 obtain⟨⟨xs,J,I⟩,G⟩:=id h;refine⟨⟨xs,J,λi hi=>(I i hi).other λb d=> ?_⟩,λb d H=> ?_⟩
 ·rcases d with d | d
  ·exact(k b d).elim (λx=>Or.inl (Or.inl x)) Or.inr
  ·exact Or.inl (Or.inr d)
 ·rcases k b H with x | x
  ·exact G b d x
  ·have:=h.lt d;omega
theorem je.beside {α:Type} {n:Nat} {R:qL α} {w w':World} {base e:Nat} {v u G:Value} {L:List α} (h:je n R (λb=>u.ownBlock=some b) w base e v L) (g:w.grownBy w' u.ownBlock) (J:G.ownBlock=u.ownBlock∨G.ownBlock=some w.heap.size):je n R (λb=>G.ownBlock=some b) w' base e v L:=by
 have M:=h.other (D':=λb=>u.ownBlock=some b∨w.heap.size<=b) (λb d=>d);have a:qg (λb=>u.ownBlock=some b∨w.heap.size<=b) w w':=⟨g.os,g.tape,g.output,g.size,λk H I=>g.block k H (λe=>I (Or.inl e.symm))⟩;refine(M.step a).other λb d=>Or.inl ?_
 rcases J with e | e
 ·exact Or.inl (by rw[<-e];exact d)
 ·rw[e] at d;injection d with d;exact Or.inr τ
theorem Dd {D:Nat->Prop} {w:World} {d:Value} {c:qQ} (s:SlI .u8 w d c.2.2.1) (H:xk c) (G:c.2.2.1≠[]-> ∀g,d.ownBlock=some g-> ¬D g):jw yH D w [υ c.1,υ c.2.1,d] c:=
 λ_ a=>VU (s.off2 G a) H
theorem xl {w:World} {base e size n:Nat} {v:Value} {xs:List Value} (h:w.ownsRow base e size v n xs): ∃oa cap,v= δ oa n cap:=by
 rcases h.2 with ⟨rfl,d⟩ | ⟨g,cap,cur,rfl,_⟩
 ·exact⟨none,0,by rw[d]⟩
 ·exact⟨_,cap,rfl⟩
structure ChJ (w wr:World) (u v:Value) (A:List qQ) (E:List Int):Prop where
 row:je 3 yH (λb=>v.ownBlock=some b) wr w.heap.size 254 u A
 errs:wr.ownsRow w.heap.size 29 1 v E.length (E.map (Value.int .i64))
 more:qa w wr
theorem ChJ.on {w wr w':World} {u v:Value} {A:List qQ} {E:List Int} (h:ChJ w wr u v A E) (m:qa wr w'):ChJ w w' u v A E:=⟨h.row.on m,jE h.errs m,h.more.trans m⟩
theorem ChJ.put {w wr w':World} {u v d:Value} {A A':List qQ} {E:List Int} (h:ChJ w wr u v A E) (H:je 3 yH (λb=>v.ownBlock=some b) w' w.heap.size 254 d A') (g:wr.grownBy w' u.ownBlock):ChJ w w' d v A' E:=
 ⟨H,XB h.errs g (λb I e=>h.row.apart b e I),Below.grown h.more g h.more.size (λk G=>h.row.ge G)⟩
theorem ChJ.err {w wr w':World} {u v v':Value} {A:List qQ} {E E':List Int} (h:ChJ w wr u v A E) (d:w'.ownsRow w.heap.size 29 1 v' E'.length (E'.map (Value.int .i64))) (g:wr.grownBy w' v.ownBlock) (H:v'.ownBlock=v.ownBlock∨v'.ownBlock=some wr.heap.size):ChJ w w' u v' A E':=
 ⟨h.row.beside g H,d,Below.grown h.more g h.more.size (λk G=>jG h.errs G)⟩
end
end Go.Proofs.YtdgippmmaponfaaGreat
