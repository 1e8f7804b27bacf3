/- Contracts and plain laws. -/
import Derived.Test.YtlmllmonabafjaaGreatDoorMg6
import Derived.Deep.WholeRow
namespace Go.Proofs.YtlmllmonabafjaaGreatDoor
open Go.Value renaming bool->μ,slice->δ,pointer->π,agg->θ
open Go.IntKind renaming i64->ι,u8->υ,u16->φ,u32->ω,i32->χ,u64->ψ
open _root_.Go.Proofs.Tryz
set_option linter.unusedSimpArgs false
set_option maxHeartbeats 8000000
set_option linter.unusedVariables false
open Go.RowKit
set_option maxRecDepth 100000
theorem YG {S:Nat->Prop} {w w':World} {v:Value} {l:List Blk} (h:SlP 7 Yu w v l) (J: ∀b,v.ownBlock=some b-> ¬S b) (a:qg S w w'):SlP 7 Yu w' v l:=by
 obtain⟨aa,cap,rfl,G,H,I⟩:=h;refine⟨aa,cap,rfl,G,λi hi=> ?_,I⟩;obtain⟨b,ab,cs,rfl,d,U,N,Y⟩:=H i hi;exact⟨b,ab,cs,rfl,Nat.lt_of_lt_of_le d a.size,U,λj O=>by rw[a.cells b _ d (J b rfl)];exact N j O,Y⟩
theorem JN {w:World} {R:Nat} {s:RdS} {C:Nat->Prop} (h:qr w R s.1 s.2 C):
  Calls prog 59 #[γ R] w λd w'=>d= .returned (ι (wO s))/\w'=w:=yY h
structure RpJ (w0 w:World) (R B5:Nat) (C:Nat->Prop) (o0 o1:Obj) (xs:List Value) (v:Value) (bl:List Blk) (s:RdS):Prop where
 rd:qr w R s.1 s.2 C
 b0:w.heap[w0.heap.size]? =some o0
 b1:w.heap[w0.heap.size+1]? =some o1
 b5:w.heap[B5]? =some (.cells (xs++[v]).toArray 289 (0,0))
 row:qV 7 Yu (λb=>b=R∨b=B5) w (B5+1) 473 v bl
 more:qa w0 w
 h1:w0.heap.size+1<R
 h2:R<B5
 hC: ∀g,C g->w0.heap.size+1<g/\g<B5
theorem RpJ.new {w d w4 w5:World} {R:Nat} {G H:Obj} {s:RdS} (xs:List Value) (cs:Array Value) (O:cs=(xs++[δ none 0 0]).toArray) (J:w4.heap[w.heap.size]? =some G) (N:w4.heap[w.heap.size+1]? =some H) (U:qr w5 R s.1 s.2 (λg=>d.heap.size<=g/\g<w4.heap.size)) (a5:qg (λb=>b=R) w4 w5) (I:qa w w4) (ac:w.heap.size+2<=d.heap.size) (aa:d.heap.size<=R) (ab:R<w4.heap.size):
  RpJ w (w5.alloc (.cells cs 289)) R w5.heap.size (λg=>d.heap.size<=g/\g<w4.heap.size) G H xs (δ none 0 0) [] s:=by
 subst O;have Y:=a5.size;exact⟨U.more (qa.alloc _ _),qq (a5.blk J τ) _,qq (a5.blk N τ) _,qk w5 _,qV.nil _ _ _ _ _ _,(JE a5 I τ).al _,τ,τ,λg h=>⟨τ,τ⟩⟩
theorem RpJ.read {J w w':World} {R d:Nat} {C:Nat->Prop} {H I:Obj} {xs:List Value} {v:Value} {G:List Blk} {s s':RdS} (h:RpJ J w R d C H I xs v G s) (r:qr w' R s'.1 s'.2 C) (a:qg (λb=>b=R) w w'):RpJ J w' R d C H I xs v G s':=by
 have h1:=h.h1;have h2:=h.h2;exact⟨r,a.blk h.b0 τ,a.blk h.b1 τ,a.blk h.b5 τ,h.row.step (a.mono λk N=>Or.inl N),JE a h.more τ,h1,h2,h.hC⟩
theorem RpJ.on {J w w':World} {R d:Nat} {C:Nat->Prop} {H I:Obj} {xs:List Value} {v:Value} {G:List Blk} {s:RdS} (h:RpJ J w R d C H I xs v G s) (m:qa w w'):RpJ J w' R d C H I xs v G s:=
 ⟨h.rd.more m,qc m h.b0,qc m h.b1,qc m h.b5,h.row.on m,h.more.trans m,h.h1,h.h2,h.hC⟩
theorem RpJ.put {I w w':World} {R d:Nat} {C:Nat->Prop} {U Y:Obj} {xs:List Value} {v v':Value} {aa O:List Blk} {s:RdS} (h:RpJ I w R d C U Y xs v aa s) (ab:xs.length=7)
  (ad:qV 7 Yu (λb=>b=R∨b=d) w' (d+1) 473 v' O) (H:w.grownBy w' v.ownBlock):RpJ I (w'.setCell ⟨d,7,none⟩ v') R d C U Y xs v' O s:=by
 have h1:=h.h1;have h2:=h.h2;have G: ∀g,v.ownBlock=some g->d+1<=g:=λg e=>h.row.ge e
 have a:qg (λb=>v.ownBlock=some b) w w':=⟨H.os,H.tape,H.output,H.size,λk N ae=>H.block k N (λe=>ae e.symm)⟩;have a5:qg (λb=>b=d) w' (w'.setCell ⟨d,7,none⟩ v'):=(qg.refl (λb=>b=d) w').set (p:=⟨d,7,none⟩) rfl v';have ac:qa I w':=qg.to_more h.more a (λk e=>by have:=G k e;omega);refine⟨(h.rd.off a (λe=>by have:=G R e;omega) (λg J e=>by have:=G g e;have:=(h.hC g J).2;omega)).off a5 τ (λg J e=>by have:=(h.hC g J).2;omega),a5.blk (a.blk h.b0 (λe=>by have:=G _ e;omega)) τ,a5.blk (a.blk h.b1 (λe=>by have:=G _ e;omega)) τ,qA (qo (a.blk h.b5 (λe=>by have:=G _ e;omega)) 7 v') ?_,ad.step (a5.mono λk N=>Or.inr N),ac.st (by show I.heap.size<=d;omega) v',h1,h2,h.hC⟩
 match xs,ab with
 | [x0,x1,x2,x3,x4,x5,x6],_=>rfl
theorem RpJ.set {G w:World} {R d:Nat} {C:Nat->Prop} {I J:Obj} {xs:List Value} {v:Value} {H:List Blk} {s:RdS} (h:RpJ G w R d C I J xs v H s) (i:Nat) (hi:i<xs.length) (x:Value):RpJ G (w.setCell ⟨d,i,none⟩ x) R d C I J (xs.set i x) v H s:=by
 have h1:=h.h1;have h2:=h.h2;have a5:qg (λb=>b=d) w (w.setCell ⟨d,i,none⟩ x):=(qg.refl (λb=>b=d) w).set (p:=⟨d,i,none⟩) rfl x;refine⟨h.rd.off a5 τ (λg N e=>by have:=(h.hC g N).2;omega),a5.blk h.b0 τ,a5.blk h.b1 τ,qA (qo h.b5 i x) ?_,h.row.step (a5.mono λk O=>Or.inr O),h.more.st (by show G.heap.size<=d;omega) x,h1,h2,h.hC⟩;simp[List.setIfInBounds_toArray,List.set_append,hi]
theorem Y7 (n:Nat) (s:RdS) (acc:List Blk):acc++(jr (n+1) s).1=(acc++[(qM s).1])++(jr n (qM s).2).1/\(jr (n+1) s).2=(jr n (qM s).2).2:=by
 constructor
 ·show acc++((qM s).1::(jr n (qM s).2).1)=_;simp
 ·rfl
theorem UG {s:RdS} (h:Byt s.1):QX (qM s).1:=by
 have d:=jH h 4;have N:=jH d 1;have G:=jH N 3;have H:=jH G 4;have I:=jH H 4;have O:=jH I 4;have U:=zv (tkB (tkS s 4).1 1) 1 (jI d 1) (zf _ 1 ζ) ζ;have Y:=KY (num (tkB (tkS (tkS s 4) 1).1 3)) 24 ζ ζ;have J:two (24-1)=8388608:=by decide
 rw[J] at Y;exact⟨kz h,⟨U.1,by show num (tkB (tkS s 4).1 1)<=255;omega⟩,⟨by show -2147483648<=sgd _ 24;omega,by show sgd _ 24<=2147483647;omega⟩,kz G,kz H,kz I,kz O⟩
theorem BM {c:qR} (O:xh c):ZC (qC c).1:=by
 by_cases h:(qC c).2=0
 ·exact(YZ (r:=(qC c).1) O (by rw[<-h])).2.1
 ·have:(qC c).1=Qr:=by
   unfold qC at h ⊢;have H: ∀r s,¬(vg r s).2=0->(vg r s).1=Qr:=by
    intro r s G;unfold vg at G ⊢;split
    ·rename_i y;rw[if_pos y] at G;exact absurd rfl G
    ·rfl
   split
   ·rfl
   ·rename_i I;rw[if_neg I] at h;split
    ·rename_i d;rw[if_pos d] at h;exact H _ _ h
    ·rename_i d;rw[if_neg d] at h;split
     ·rename_i J;rw[if_pos J] at h;exact H _ _ h
     ·rfl
  rw[this];exact⟨ζ,Gs,λb N=>by cases N⟩
theorem DJ {w:World} (k t:Int) (B:List Int) (H:Option Addr) (G:Nat) (aa:Hid (SlI .u8 w (δ H B.length G) B)) (an:Hid (Byt B)) (ak:B.length<=1000000) (U:Hid (jt (k,t,B,())=false)):
  Calls prog 280 #[θ #[υ k,υ t,δ H B.length G]] w λe w'=>e= .returned (.tuple #[Γd,ι 1])/\qa w w':=by
 have O:qa w ((w.alloc (.cells #[υ k,υ t,δ H B.length G] 291)).alloc (.cells Γd 289)):=(qa.alloc _ _).al _;have J:((w.alloc (.cells #[υ k,υ t,δ H B.length G] 291)).alloc (.cells Γd 289)).heap[w.heap.size]? =some (.cells #[υ k,υ t,δ H B.length G] 291):=qq (qk w _) _;have N:((w.alloc (.cells #[υ k,υ t,δ H B.length G] 291)).alloc (.cells Γd 289)).heap[w.heap.size+1]? =some (.cells Γd 289):=qB η
 go_enter func280,ntmps280
 go_wp2_with (go_at_call 260;refine(xS (k,t,B,()) (aa.o.keep O) ak).mono ?_;rintro e am ⟨rfl,I⟩;rw[U.o];have Y:=O.trans I;have aj:=qc I J;have d:=qc I N;have ao:w.heap.size+2<=am.heap.size:=Nat.le_trans η I.size;have ab:=β0 d;have z0:=qd d 0;have ac:=β1 d;have ap:=qd d 1;have ad:=β2 d;have aq:=qd d 2;have ae:=β3 d;have z3:=qd d 3;have af:=β4 d;have z4:=qd d 4;have ag:=β5 d;have z5:=qd d 5;have ah:=β6 d;have ar:=qd d 6;have ai:=β7 d;have au:=qd d 7;clear aj d J N)
 (refine bodyPost_ret (v:= .tuple #[Γd,ι 1]) ?rr1 rfl ?_;(case rr1=>(simp[results,results280,go_sem,ab,ac,ad,ae,af,ag,ah,ai])))
 exact⟨rfl,((((((((Y.st η _).st η _).st η _).st η _).st η _).st η _).st η _).st η _)⟩
theorem Vg {w:World} (k t:Int) (B:List Int) (H:Option Addr) (G:Nat) (U:Hid (SlI .u8 w (δ H B.length G) B)) (ad:Hid (Byt B)) (aa:B.length<=1000000) (ae:Hid (jt (k,t,B,())=true)) (aq: ¬t=200) (ar: ¬t=201):
  Calls prog 280 #[θ #[υ k,υ t,δ H B.length G]] w λe w'=>e= .returned (.tuple #[Γd,ι 5])/\qa w w':=by
 have ab:qa w ((w.alloc (.cells #[υ k,υ t,δ H B.length G] 291)).alloc (.cells Γd 289)):=(qa.alloc _ _).al _;have av:((w.alloc (.cells #[υ k,υ t,δ H B.length G] 291)).alloc (.cells Γd 289)).heap[w.heap.size]? =some (.cells #[υ k,υ t,δ H B.length G] 291):=qq (qk w _) _;have ay:((w.alloc (.cells #[υ k,υ t,δ H B.length G] 291)).alloc (.cells Γd 289)).heap[w.heap.size+1]? =some (.cells Γd 289):=qB η;have aG:(t==200)=false:=by simpa using aq
 have aH:(t==201)=false:=by simpa using ar
 go_enter func280,ntmps280
 go_wp2_with first | (go_at_call 260;refine(xS (k,t,B,()) (U.o.keep ab) aa).mono ?_;rintro e N ⟨rfl,I⟩;rw[ae.o];have O:=ab.trans I;have Y:=qc I av;have aw:=qc I ay;have aB:w.heap.size+2<=N.heap.size:=Nat.le_trans η I.size;have aD:=β2 Y) | (go_at_call 51;(go_call kr _ B N (U.o.keep O) ad.o aa as e w4 ⟨R,rfl,az,ac,J⟩;have au:=qc J Y;have ax:=qc J aw;have af:=O.trans J;have aA:R<w4.heap.size:=by (obtain⟨v,ap,_⟩:=ac.blk;exact ql ap))) | (go_at_call 54;(go_call jz ac as e w5 ⟨rfl,aC,a5⟩;have d:RpJ w (w5.alloc (.cells #[μ false,ω (num (tkB B 4)),ω 0,ω 0,ω 0,ω 0,ω 0,()] 289)) R w5.heap.size (λg=>N.heap.size<=g/\g<w4.heap.size) (.cells #[υ k,υ t,δ H B.length G] 291) (.cells Γd 289) [μ false,ω (num (tkB B 4)),ω 0,ω 0,ω 0,ω 0,ω 0] (δ none 0 0) [] (tkL B 4,tkE B 4 0):=RpJ.new _ _ rfl au ax aC a5 af aB az aA;have aF:=β1 d.b0;have aE:=β0 d.b0;have ag:=β0 d.b1;have z0:=qd d.b1 0;have ah:=β1 d.b1;have aI:=qd d.b1 1;have ai:=β2 d.b1;have aJ:=qd d.b1 2;have aj:=β3 d.b1;have z3:=qd d.b1 3;have ak:=β4 d.b1;have z4:=qd d.b1 4;have am:=β5 d.b1;have z5:=qd d.b1 5;have an:=β6 d.b1;have aK:=qd d.b1 6;have ao:=β7 d.b1;have aL:=qd d.b1 7))
 (refine bodyPost_ret (v:= .tuple #[Γd,ι 5]) ?rr2 rfl ?_;(case rr2=>(simp[results,results280,go_sem,ag,ah,ai,aj,ak,am,an,ao])))
 exact⟨rfl,((((((((d.more.st η _).st η _).st η _).st η _).st η _).st η _).st η _).st η _)⟩
theorem XO {w:World} (G:Nat) (t:Int) (snd:Bool) (inf:Inf) (s0:RdS) (B:List Int) (U:Option Addr) (O:Nat) (D:Rep×Int) (aM:Hid (SlI .u8 w (δ U B.length O) B)) (bu:Hid (Byt B)) (bi:B.length<=1000000) (cb:G<=31) (aG:Hid (jt ((G:Int),t,B,())=true))
  (bj:t=if snd then 200 else 201) (bf:(if snd then jv (tkL B 4,tkE B 4 0) else (Jr,(tkL B 4,tkE B 4 0)))=(inf,s0)) (bv:Hid (vg ⟨snd,num (tkB B 4),inf,(jr G s0).1⟩ (jr G s0).2=D)):
  Calls prog 280 #[θ #[υ (G:Int),υ t,δ U B.length O]] w λe w'=>(∃vb,e= .returned (.tuple #[θ #[μ D.1.snd,ω D.1.src,ω D.1.inf.sec,ω D.1.inf.frac,ω D.1.inf.stamp,ω D.1.inf.pkts,ω D.1.inf.octs,vb],ι D.2])/\SlP 7 Yu w' vb D.1.bl/\jS w vb)/\qa w w':=by
 obtain⟨bN,hi,bK,bL,bM⟩:=info_parts (P:=prog) (e:=473) (z:= Γe) (size:=7) (bytes:=28) ξ;obtain⟨k,av⟩: ∃k:Int,k=(G:Int):=⟨_,rfl⟩;rw[<-av] at aG ⊢;have aq:=κ av;clear av;have aB:qa w ((w.alloc (.cells #[υ k,υ t,δ U B.length O] 291)).alloc (.cells Γd 289)):=(qa.alloc _ _).al _;have bb:((w.alloc (.cells #[υ k,υ t,δ U B.length O] 291)).alloc (.cells Γd 289)).heap[w.heap.size]? =some (.cells #[υ k,υ t,δ U B.length O] 291):=qq (qk w _) _;have bd:((w.alloc (.cells #[υ k,υ t,δ U B.length O] 291)).alloc (.cells Γd 289)).heap[w.heap.size+1]? =some (.cells Γd 289):=qB η;have aH:=κ bj;have aD:=κ bf;clear bj bf
 go_enter func280,ntmps280
 go_upto_block 2 with first | (go_at_call 260;refine(xS (k,t,B,()) (aM.o.keep aB) bi).mono ?_;rintro e ag ⟨rfl,am⟩;rw[aG.o];have aI:=aB.trans am;have aZ:=qc am bb;have bE:=qc am bd;have bk:w.heap.size+2<=ag.heap.size:=Nat.le_trans η am.size;have bC:=β2 aZ) | (go_at_call 51;(go_call kr _ B ag (aM.o.keep aI) bu.o bi as e w4 ⟨R,rfl,bg,bn,aC⟩;have ba:=qc aC aZ;have bc:=qc aC bE;have aJ:=aI.trans aC;have bh:R<w4.heap.size:=by (obtain⟨v,h1,_⟩:=bn.blk;exact ql h1))) | (go_at_call 54;(go_call jz bn as e w5 ⟨rfl,bo,a5⟩;have af:RpJ w (w5.alloc (.cells #[μ false,ω (num (tkB B 4)),ω 0,ω 0,ω 0,ω 0,ω 0,()] 289)) R w5.heap.size (λg=>ag.heap.size<=g/\g<w4.heap.size) (.cells #[υ k,υ t,δ U B.length O] 291) (.cells Γd 289) [μ false,ω (num (tkB B 4)),ω 0,ω 0,ω 0,ω 0,ω 0] (δ none 0 0) [] (tkL B 4,tkE B 4 0):=RpJ.new _ _ rfl ba bc bo a5 aJ bk bg bh;have au:=β1 af.b0))
 have ap:=κ af;clear af au
 go_cut [] from 19 to 51 (λbR=>RpJ w bR R w5.heap.size (λg=>ag.heap.size<=g/\g<w4.heap.size) (.cells #[υ k,υ t,δ U B.length O] 291) (.cells Γd 289) [μ snd,ω (num (tkB B 4)),ω inf.sec,ω inf.frac,ω inf.stamp,ω inf.pkts,ω inf.octs] (δ none 0 0) [] s0)
 case first=>
  cases snd
  ·have h1:=aH.o;have h2:=aD.o;simp only[Bool.false_eq_true,if_false,Prod.mk.injEq] at h1 h2;obtain⟨rfl,rfl⟩:=h2;subst h1;have au:=β1 ap.o.b0;go_wp2;go_meet;exact ap.o
  ·have h1:=aH.o;have h2:=aD.o;simp only[if_true] at h1 h2;subst h1;have ah:inf=(jv (tkL B 4,tkE B 4 0)).1:=by rw[h2]
   have bD:s0=(jv (tkL B 4,tkE B 4 0)).2:=by rw[h2]
   subst ah bD;clear h2;have au:=β1 ap.o.b0;have af:RpJ w (w5.alloc (.cells #[μ true,ω (num (tkB B 4)),ω 0,ω 0,ω 0,ω 0,ω 0,()] 289)) R w5.heap.size (λg=>ag.heap.size<=g/\g<w4.heap.size) (.cells #[υ k,υ 200,δ U B.length O] 291) (.cells Γd 289) [μ true,ω (num (tkB B 4)),ω 0,ω 0,ω 0,ω 0,ω 0] (δ none 0 0) [] (tkL B 4,tkE B 4 0):=RpJ.new _ _ rfl ba bc bo a5 aJ bk bg bh
   go_wp2_with ((go_at_call 304;(go_call KE (s:=(tkL B 4,tkE B 4 0)) af.rd as e ct ⟨rfl,bp,aO⟩;have J:=af.read bp aO;have cl:=β2 J.b5;have cu:=qd J.b5 2;have cm:=β3 J.b5;have cv:=qd J.b5 3;have cn:=β4 J.b5;have cw:=qd J.b5 4;have co:=β5 J.b5;have cx:=qd J.b5 5;have cp:=β6 J.b5;have cy:=qd J.b5 6;have bz:=(((((J.set 2 η (ω (jv (tkL B 4,tkE B 4 0)).1.sec)).set 3 η (ω (jv (tkL B 4,tkE B 4 0)).1.frac)).set 4 η (ω (jv (tkL B 4,tkE B 4 0)).1.stamp)).set 5 η (ω (jv (tkL B 4,tkE B 4 0)).1.pkts)).set 6 η (ω (jv (tkL B 4,tkE B 4 0)).1.octs));clear bp aO)))
   go_meet;exact bz
 case rest=>
 have ar:=hcut;have bW:=β0 ar.b0;go_wp2;clear bC aB bb bd;have aE:=κ ar;clear ar;obtain⟨aL,bX⟩: ∃aL,aL=R:=⟨_,rfl⟩;obtain⟨H,aj⟩: ∃H,H=w5.heap.size:=⟨_,rfl⟩;obtain⟨C,be⟩: ∃C:Nat->Prop,C=λg=>ag.heap.size<=g/\g<w4.heap.size:=⟨_,rfl⟩
 rw[<-aj,<-be] at aE;have bU:=κ (And.intro aj aq.o);rw[<-aj];clear aj be;have bw:=bv
 go_loopw [29] (λaA wr=> ∃j:Nat,j<=G/\aA= υ (j:Int)/\(∃v bl s,RpJ w wr R H C (.cells #[υ k,υ t,δ U B.length O] 291) (.cells Γd 289) [μ snd,ω (num (tkB B 4)),ω inf.sec,ω inf.frac,ω inf.stamp,ω inf.pkts,ω inf.octs] v bl s/\bl.length=j/\(jr G s0).1=bl++(jr (G-j) s).1/\(jr G s0).2=(jr (G-j) s).2)) (λaA _=>G-(intOf aA).toNat)
 case atStart=>exact⟨0,τ,rfl,⟨_,_,_,aE.o,rfl,η,rfl⟩⟩
 case round=>
  obtain⟨j,bZ,rfl,⟨v,bl,s,d,bm,ac,ad⟩⟩:=hrel;have Y:=κ d;have aF:=κ bm;clear d bm;by_cases hlt:j<G
  ·have bG:(j:Int)<k:=by rw[aq.o];omega
   have ah:G-j=(G-(j+1))+1:=by omega
   have ax:=Y7 (G-(j+1)) s bl;rw[ah,ax.1] at ac;rw[ah,ax.2] at ad;have bs:=κ ac;have bt:=κ ad;clear ac ad ax ah;have ca:((j:Int)+1)%256=(j:Int)+1:=by omega
   have bI: ¬(H=R∨v.ownBlock=some H):=by
    rintro(e | e)
    ·have:=Y.o.h2;omega
    ·have:=Y.o.row.ge e;omega
   have bT:=λ(x:qu (λb=>b=R∨v.ownBlock=some b) wr)=>β7 (x.h.blk Y.o.b5 bI)
   go_wp2_with fail
   refine QN (λb=>b=R∨v.ownBlock=some b) wr 7 8 [3,4,5,7] ?_
   refine Qs3 ?_
   (refine Ql ?_;intro K I)
   refine(KH (s:=s) (Y.o.rd.more (qa.drewN _ 1))).mono ?_;rintro e w8 ⟨rfl,bP,aP⟩;have aQ:qg (λb=>b=R∨v.ownBlock=some b) wr w8:=((qg.refl _ _).drewN _).trans (aP.mono λb h=>Or.inl h);refine⟨_,rfl,qi aQ,I _ _ ?_⟩;clear I K
   (refine Ql ?_;intro K I)
   have a9:=aQ.more (qa.alloc w8 (.cells #[ω (qM s).1.src,υ (qM s).1.part,χ (qM s).1.miss,ω (qM s).1.high,ω (qM s).1.jit,ω (qM s).1.last,ω (qM s).1.dly] 473));refine⟨qi a9,I _ _ ?_⟩;clear I K;have bA:=(Y.o.on (qa.drewN wr 1)).read bP aP;have N:=bA.on (qa.alloc w8 (.cells #[ω (qM s).1.src,υ (qM s).1.part,χ (qM s).1.miss,ω (qM s).1.high,ω (qM s).1.jit,ω (qM s).1.last,ω (qM s).1.dly] 473));have bO:=UG (s:=s) Y.o.rd.byt
   (refine jJ rfl rfl ?_;intro K I)
   refine zK (.tmp 32) (.tmp 35) 287 rfl (H+1) 473 bN (Γe) 7 28 underlying287 hi bK bL bM rfl ζ v bl rfl N.row w8.heap.size (qM s).1.cells (qM s).1 rfl rfl (xO rfl) (by simp[Blk.cells,Value.oneCell']) (λ_ _=>⟨rfl,bO⟩) (λb ak=>by have:=N.h2;have:=ql N.b5;omega) ζ (by have:=aF.o;omega) (by have:=ql N.b5;omega) ?_;intro cr w10 aw aa bF;have aN:qg (λb=>b=R∨v.ownBlock=some b) wr w10:=a9.trans ⟨aa.os,aa.tape,aa.output,aa.size,λk bH bJ=>aa.block k bH (λe=>bJ (Or.inr e.symm))⟩;have bx:=κ (N.put (by rfl) aw aa);have cq:w10.cell? ⟨H,7,none⟩=some v:=by
    have:w10.heap[H]? =_:=(aa.block H (ql N.b5) (λe=>by have:=N.row.ge e.symm;omega)).trans N.b5;exact qb this 7 rfl
   have bS:w10.frozen? ⟨H,7,none⟩=false:=by
    have:w10.heap[H]? =_:=(aa.block H (ql N.b5) (λe=>by have:=N.row.ge e.symm;omega)).trans N.b5;exact qd this 7
   obtain⟨cd,cc,bV,rfl,ay,az⟩:=aw.shape;clear ay az aw aa bF;refine⟨qi aN,I _ _ ?_⟩;clear I K;go_simp
   iterate 1 (refine qD rfl rfl (qi aN) ?_;intro K I;go_big_quiet_op;go_big_quiet_on)
   (refine Qe ?_;intro K I)
   refine I _ _ ?_;clear I K;refine qv ?_;go_wp2;go_roundw
   case rel=>exact⟨j+1,τ,by go_num,⟨_,_,_,bx.o,by (have:=aF.o;simp;omega),bs.o,bt.o⟩⟩
   case measure=>simp[intOf];omega
  ·obtain rfl:j=G:=by omega
   rw[Nat.sub_self] at ac ad;have ac:(jr j s0).1=bl:=by rw[ac];exact List.append_nil _
   have ad:(jr j s0).2=s:=ad;have ab:=bw.o;rw[ac,ad] at ab;unfold vg at ab;have d:=Y.o;have bG: ¬(j:Int)<k:=by rw[aq.o];omega
   obtain⟨ao,an,ai,rfl,ay,az⟩:=d.row.shape;have bB:=κ (d.row.sl ζ);have bq:Hid (∀b,(δ ao an ai).ownBlock=some b-> ¬b=w.heap.size+1):=κ (λb ak e=>by have:=d.row.ge ak;have:=d.h1;have:=d.h2;omega);have br:Hid (jS w (δ ao an ai)):=κ (λb ak=>by have:=d.row.ge ak;have:=d.h1;have:=d.h2;omega);have aK:=κ d.more;clear ac ad ay az;have ce:=β0 d.b5;have cf:=β1 d.b5;have p2:=β2 d.b5;have cg:=β3 d.b5;have ch:=β4 d.b5;have ci:=β5 d.b5;have cj:=β6 d.b5;have ck:=β7 d.b5;have aR:=β0 d.b1;have z0:=qd d.b1 0;have aS:=β1 d.b1;have cz:=qd d.b1 1;have aT:=β2 d.b1;have cA:=qd d.b1 2;have aU:=β3 d.b1;have z3:=qd d.b1 3;have aV:=β4 d.b1;have z4:=qd d.b1 4;have aW:=β5 d.b1;have z5:=qd d.b1 5;have aX:=β6 d.b1;have cB:=qd d.b1 6;have aY:=β7 d.b1;have bS:=qd d.b1 7;by_cases he:wO s=0
   ·rw[if_pos he] at ab;have ae:=κ ab;clear ab d
    go_wp2_with (go_at_call 59;(go_call JN (s:=s) Y.o.rd as e bQ ⟨rfl,rfl⟩;rw[he]))
    (refine bodyPost_ret (v:= .tuple #[θ #[μ snd,ω (num (tkB B 4)),ω inf.sec,ω inf.frac,ω inf.stamp,ω inf.pkts,ω inf.octs,δ ao an ai],ι 0]) ?rr3 rfl ?_;(case rr3=>(simp[results,results280,go_sem,aR,aS,aT,aU,aV,aW,aX,aY])))
    refine⟨⟨δ ao an ai,by first | (rw[<-ae.o];done) | (rw[<-ae.o];rfl), ?_⟩,((((((((aK.o.st η _).st η _).st η _).st η _).st η _).st η _).st η _).st η _)⟩;rw[<-ae.o];exact⟨YG bB.o bq.o ((((((((qg.refl (λb=>b=w.heap.size+1) _).set rfl _).set rfl _).set rfl _).set rfl _).set rfl _).set rfl _).set rfl _ |>.set rfl _),br.o⟩
   ·rw[if_neg he] at ab;have ae:=κ ab;have bY:(wO s != 0)=true:=by simpa using he
    clear ab d
    go_wp2_with (go_at_call 59;(go_call JN (s:=s) Y.o.rd as e bQ ⟨rfl,rfl⟩))
    (refine bodyPost_ret (v:= .tuple #[Γd,ι (wO s)]) ?rr4 rfl ?_;(case rr4=>(simp[results,results280,go_sem,aR,aS,aT,aU,aV,aW,aX,aY])))
    refine⟨⟨δ none 0 0,by first | (rw[<-ae.o];done) | (rw[<-ae.o];rfl), ?_⟩,((((((((aK.o.st η _).st η _).st η _).st η _).st η _).st η _).st η _).st η _)⟩;rw[<-ae.o];exact⟨SlP.nil _ _ _,jS.nil w⟩
theorem Wq {w:World} {vb:Value} (c:qR) (Y:SlI .u8 w vb c.2.2.1) (aa:xh c) (J:c.2.2.1.length<=1000000):
  Calls prog 280 #[θ #[υ c.1,υ c.2.1,vb]] w λe w'=>(∃vb,e= .returned (.tuple #[θ #[μ (qC c).1.snd,ω (qC c).1.src,ω (qC c).1.inf.sec,ω (qC c).1.inf.frac,ω (qC c).1.inf.stamp,ω (qC c).1.inf.pkts,ω (qC c).1.inf.octs,vb],ι (qC c).2])/\SlP 7 Yu w' vb (qC c).1.bl/\jS w vb)/\qa w w':=by
 obtain⟨k,t,B,⟨⟩⟩:=c;obtain⟨⟨ac,ad⟩,_,I⟩:=aa;simp only at *;have G:=κ Y;obtain⟨N,H,rfl,_⟩:=Y;cases hr:jt (k,t,B,()) with
 | false=>
  have e:qC (k,t,B,())=(Qr,1):=by unfold qC;rw[if_pos hr]
  rw[e];exact(DJ k t B N H G (κ I) J (κ hr)).mono λe w' ⟨O,U⟩=>⟨⟨_,O,SlP.nil _ _ _,jS.nil w⟩,U⟩
 | true=>
  have ab:=((zN _).1 hr).1;simp only at ab;obtain⟨d,rfl⟩: ∃n:Nat,k=n:=⟨k.toNat,τ⟩;by_cases h200:t=200
  ·subst h200;have e:qC ((d:Int),200,B,())=vg ⟨true,num (tkB B 4),(jv (tkL B 4,tkE B 4 0)).1,(jr d (jv (tkL B 4,tkE B 4 0)).2).1⟩ (jr d (jv (tkL B 4,tkE B 4 0)).2).2:=by
    unfold qC;rw[if_neg (by rw[hr];simp),if_pos rfl];rfl
   exact XO d 200 true (jv (tkL B 4,tkE B 4 0)).1 (jv (tkL B 4,tkE B 4 0)).2 B N H _ G (κ I) J τ (κ hr) rfl rfl (κ e.symm)
  ·by_cases h201:t=201
   ·subst h201;have e:qC ((d:Int),201,B,())=vg ⟨false,num (tkB B 4),Jr,(jr d (tkL B 4,tkE B 4 0)).1⟩ (jr d (tkL B 4,tkE B 4 0)).2:=by
     unfold qC;rw[if_neg (by rw[hr];simp),if_neg (show ¬(201:Int)=200 by decide),if_pos rfl];rfl
    exact XO d 201 false Jr (tkL B 4,tkE B 4 0) B N H _ G (κ I) J τ (κ hr) rfl rfl (κ e.symm)
   ·have e:qC ((d:Int),t,B,())=(Qr,5):=by unfold qC;rw[if_neg (by rw[hr];simp),if_neg h200,if_neg h201]
    rw[e];exact(Vg (d:Int) t B N H G (κ I) J (κ hr) h200 h201).mono λe w' ⟨O,U⟩=>⟨⟨_,O,SlP.nil _ _ _,jS.nil w⟩,U⟩
theorem qg.cons {b:Nat} {w w':World} (h:qg (λk=>k=b) w w') (i:Nat) (v:Value):qg (λk=>k=b) w (w'.setCell ⟨b,i,none⟩ v):=h.set (p:=⟨b,i,none⟩) rfl v
theorem JC {w:World} {b:Nat} {t:TypeId} {a0 I H a3 a4:Value} (h:w.heap[b]? =some (.cells #[a0,I,H,a3,a4] t (0,0))) (v0 d G v3 v4:Value):(((((w.setCell ⟨b,0,none⟩ v0).setCell ⟨b,1,none⟩ d).setCell ⟨b,2,none⟩ G).setCell ⟨b,3,none⟩ v3).setCell ⟨b,4,none⟩ v4).heap[b]? =some (.cells #[v0,d,G,v3,v4] t (0,0)):=by
 have h:=qA (cs':= #[v0,I,H,a3,a4]) (qo h 0 v0) rfl;have h:=qA (cs':= #[v0,d,H,a3,a4]) (qo h 1 d) rfl;have h:=qA (cs':= #[v0,d,G,a3,a4]) (qo h 2 G) rfl;have h:=qA (cs':= #[v0,d,G,v3,a4]) (qo h 3 v3) rfl;exact qA (qo h 4 v4) rfl
theorem qg.st5 (w:World) (b:Nat) (v0 d G v3 v4:Value):qg (λk=>k=b) w (((((w.setCell ⟨b,0,none⟩ v0).setCell ⟨b,1,none⟩ d).setCell ⟨b,2,none⟩ G).setCell ⟨b,3,none⟩ v3).setCell ⟨b,4,none⟩ v4):=((((((qg.refl (λk=>k=b) w).cons 0 v0).cons 1 d).cons 2 G).cons 3 v3).cons 4 v4)
theorem kK {w:World} {b:Nat} {t:TypeId} {a0 d G a3 a4:Value} (h:w.heap[b]? =some (.cells #[a0,d,G,a3,a4] t (0,0))):
  w.cell? ⟨b,0,none⟩=some a0/\w.cell? ⟨b,1,none⟩=some d/\w.cell? ⟨b,2,none⟩=some G/\w.cell? ⟨b,3,none⟩=some a3/\w.cell? ⟨b,4,none⟩=some a4:=
 ⟨qb h 0 rfl,qb h 1 rfl,qb h 2 rfl,qb h 3 rfl,qb h 4 rfl⟩
theorem WH {w:World} {b:Nat} {cs:Array Value} {t:TypeId} (h:w.heap[b]? =some (.cells cs t (0,0))):
  w.frozen? ⟨b,0,none⟩=false/\w.frozen? ⟨b,1,none⟩=false/\w.frozen? ⟨b,2,none⟩=false/\w.frozen? ⟨b,3,none⟩=false/\w.frozen? ⟨b,4,none⟩=false:=
 ⟨qd h 0,qd h 1,qd h 2,qd h 3,qd h 4⟩
theorem JD {S:Nat->Prop} {w w':World} {v:Value} {l:List (Int×Int)} (h:SlP 2 Vl w v l) (J: ∀b,v.ownBlock=some b-> ¬S b) (a:qg S w w'):SlP 2 Vl w' v l:=by
 obtain⟨aa,cap,rfl,G,H,I⟩:=h;refine⟨aa,cap,rfl,G,λi hi=> ?_,I⟩;obtain⟨b,ab,cs,rfl,d,U,N,Y⟩:=H i hi;exact⟨b,ab,cs,rfl,Nat.lt_of_lt_of_le d a.size,U,λj O=>by rw[a.cells b _ d (J b rfl)];exact N j O,Y⟩
structure MdJ (w0 w:World) (R Bm:Nat) (C:Nat->Prop) (o0 o1:Obj) (cs:Array Value) (s:RdS):Prop where
 rd:qr w R s.1 s.2 C
 b0:w.heap[w0.heap.size]? =some o0
 b1:w.heap[w0.heap.size+1]? =some o1
 bm:w.heap[Bm]? =some (.cells cs 283 (0,0))
 more:qa w0 w
 h1:w0.heap.size+1<Bm
 h2:Bm<R
 hC: ∀g,C g->Bm<g
section
variable {w0 w w':World} {R Bm:Nat} {C:Nat->Prop} {o0 o1:Obj} {cs:Array Value} {s s':RdS}
theorem MdJ.read (h:MdJ w0 w R Bm C o0 o1 cs s) (r:qr w' R s'.1 s'.2 C) (a:qg (λb=>b=R) w w'):MdJ w0 w' R Bm C o0 o1 cs s':=by
 have h1:=h.h1;have h2:=h.h2;exact⟨r,a.blk h.b0 τ,a.blk h.b1 τ,a.blk h.bm τ,JE a h.more τ,h1,h2,h.hC⟩
theorem MdJ.set (h:MdJ w0 w R Bm C o0 o1 cs s) (i:Nat) (x:Value):MdJ w0 (w.setCell ⟨Bm,i,none⟩ x) R Bm C o0 o1 (cs.setIfInBounds i x) s:=by
 have h1:=h.h1;have h2:=h.h2;have a:qg (λb=>b=Bm) w (w.setCell ⟨Bm,i,none⟩ x):=(qg.refl (λb=>b=Bm) w).set (p:=⟨Bm,i,none⟩) rfl x;exact⟨h.rd.off a τ (λg d e=>by have:=h.hC g d;omega),a.blk h.b0 τ,a.blk h.b1 τ,qo h.bm i x,qg.to_more h.more a (λk G=>by omega),h1,h2,h.hC⟩
theorem MdJ.eq {cs':Array Value} (h:MdJ w0 w R Bm C o0 o1 cs s) (e:cs=cs'):MdJ w0 w R Bm C o0 o1 cs' s:=e▸h
end
theorem Fe (a b:Int) (s:RdS):vG 1 a b s=kh ⟨1,a,b,[],[]⟩ s:=by unfold vG;rw[if_neg ζ,if_neg ζ]
theorem Fd (a b:Int) (s:RdS):vG 2 a b s=kh ⟨2,a,b,(jk s.1.length [] (zy b s)).1,[]⟩ (jk s.1.length [] (zy b s)).2:=by unfold vG;rw[if_pos rfl]
theorem Fc (a b:Int) (s:RdS):vG 3 a b s=kh ⟨3,a,b,[],(qY s.1.length [] (xM s)).1⟩ (qY s.1.length [] (xM s)).2:=by unfold vG;rw[if_neg ζ,if_pos rfl]
theorem Yd (b:Int) (s:RdS):(zy b s).1.length<=s.1.length:=by
 unfold zy;split
 ·exact vL s 2
 ·exact Nat.le_refl _
theorem uM: ∀(n m:Nat) (acc:List (Int×Int)) (s:RdS),s.1.length<=n->n<=m->jk m acc s=jk n acc s
 | 0,m,acc,s,h,_=>by
  obtain⟨l,e⟩:=s;obtain rfl:l=[]:=List.eq_nil_of_length_eq_zero (by simpa using h);rw[zE];rfl
 | n+1,m,acc,s,h,hm=>by
  obtain⟨m,rfl⟩: ∃k,m=k+1:=⟨m-1,τ⟩;by_cases hs:s.1=[]
  ·obtain⟨l,e⟩:=s;simp only at hs;subst hs;rw[zE,zE]
  ·rw[yl hs,yl hs];exact uM n m _ _ (by have:=Xu hs;omega) τ
theorem DI {w:World} (n t:Int) (B:List Int) (G:Option Addr) (d:Nat) (ad:Hid (SlI .u8 w (δ G B.length d) B)) (ae:B.length<=1000000) (aa:Hid (jt (n,t,B,())=false)):
  Calls prog 281 #[θ #[υ n,υ t,δ G B.length d]] w λe w'=>e= .returned (.tuple #[Γg,ι 1])/\qa w w':=by
 have ab:=κ (xS (w:=(w.alloc (.cells #[υ n,υ t,δ G B.length d] 291)).alloc (.cells Γg 283)) (n,t,B,()) (ad.o.keep ((qa.alloc _ _).al _)) ae);have Y:=κ (qB (w:=w.alloc (.cells #[υ n,υ t,δ G B.length d] 291)) (n:=w.heap.size+1) (o:=(.cells Γg 283)) η)
 go_enter func281,ntmps281
 go_wp2_with (go_at_call 260;(go_call ab.o as e U ⟨rfl,I⟩;rw[aa.o];have H:=κ (qc I Y.o);have ac:=κ (((qa.alloc w (.cells #[υ n,υ t,δ G B.length d] 291)).al (.cells Γg 283)).trans I);clear I;obtain⟨aq,ar,au,av,aw⟩:=kK H.o;obtain⟨ak,am,an,ao,ap⟩:=WH H.o))
 have J:=JC H.o (ι 0) (ω 0) (ω 0) (δ none 0 0) (δ none 0 0);have a5:=qg.st5 U (w.heap.size+1) (ι 0) (ω 0) (ω 0) (δ none 0 0) (δ none 0 0);have O:=qg.to_more ac.o a5 (λb e=>by omega);obtain⟨WF,N⟩:=ν ((((((U.setCell ⟨w.heap.size+1,0,none⟩ (ι 0)).setCell ⟨w.heap.size+1,1,none⟩ (ω 0)).setCell ⟨w.heap.size+1,2,none⟩ (ω 0)).setCell ⟨w.heap.size+1,3,none⟩ (δ none 0 0)).setCell ⟨w.heap.size+1,4,none⟩ (δ none 0 0)));rw[N] at J O ⊢ a5;clear N;obtain⟨af,ag,ah,ai,aj⟩:=kK J
 (refine bodyPost_ret (v:= .tuple #[Γg,ι 1]) ?rr1 rfl ?_;(case rr1=>(simp[results,results281,go_sem,af,ag,ah,ai,aj])))
 exact⟨rfl,O⟩
theorem KI {w:World} (n t:Int) (B:List Int) (G:Option Addr) (d:Nat) (ai:Hid (SlI .u8 w (δ G B.length d) B)) (aj:B.length<=1000000) (ae:Hid (jt (n,t,B,())=true)) (ad:Hid (zx (n,t,B,())=0)):
  Calls prog 281 #[θ #[υ n,υ t,δ G B.length d]] w λe w'=>e= .returned (.tuple #[Γg,ι 5])/\qa w w':=by
 have af:=κ (xS (w:=(w.alloc (.cells #[υ n,υ t,δ G B.length d] 291)).alloc (.cells Γg 283)) (n,t,B,()) (ai.o.keep ((qa.alloc _ _).al _)) aj);have aa:=κ (qq (qk w (.cells #[υ n,υ t,δ G B.length d] 291)) (.cells Γg 283));have ab:=κ (qB (w:=w.alloc (.cells #[υ n,υ t,δ G B.length d] 291)) (n:=w.heap.size+1) (o:=(.cells Γg 283)) η)
 go_enter func281,ntmps281
 go_wp2_with (first | (go_at_call 260;(go_call af.o as e aF ⟨rfl,H⟩;rw[ae.o];have I:=κ (qc H aa.o);have ac:=κ (qc H ab.o);have ag:=κ (((qa.alloc w (.cells #[υ n,υ t,δ G B.length d] 291)).al (.cells Γg 283)).trans H);clear H;have aq:=β0 I.o;have ar:=β1 I.o;have au:=β2 I.o)) | (go_at_call 306;(go_call XQ n t B G d _ as e w4 ⟨rfl,N⟩;rw[ad.o];have J:=κ (qq (qc N ac.o) (.cells Γg 283));have ah:=κ ((ag.o.trans N).al (.cells Γg 283));clear N aq ar au;obtain⟨aA,aB,aC,aD,aE⟩:=kK J.o;obtain⟨av,aw,ax,ay,az⟩:=WH J.o)))
 generalize w4.alloc (.cells Γg 283)=w5 at *;have O:=JC J.o (ι 0) (ω 0) (ω 0) (δ none 0 0) (δ none 0 0);have a5:=qg.st5 w5 (w.heap.size+1) (ι 0) (ω 0) (ω 0) (δ none 0 0) (δ none 0 0);have Y:=qg.to_more ah.o a5 (λb e=>by omega);obtain⟨WF,U⟩:=ν ((((((w5.setCell ⟨w.heap.size+1,0,none⟩ (ι 0)).setCell ⟨w.heap.size+1,1,none⟩ (ω 0)).setCell ⟨w.heap.size+1,2,none⟩ (ω 0)).setCell ⟨w.heap.size+1,3,none⟩ (δ none 0 0)).setCell ⟨w.heap.size+1,4,none⟩ (δ none 0 0)));rw[U] at O Y ⊢ a5;clear U;obtain⟨ak,am,an,ao,ap⟩:=kK O
 (refine bodyPost_ret (v:= .tuple #[Γg,ι 5]) ?rr2 rfl ?_;(case rr2=>(simp[results,results281,go_sem,ak,am,an,ao,ap])))
 exact⟨rfl,Y⟩
theorem Eg {w:World} (n t k:Int) (bA:k=1∨k=2∨k=3) (B:List Int) (ai:Option Addr) (ad:Nat) (D:Msg×Int) (bp:Hid (SlI .u8 w (δ ai B.length ad) B)) (bf:Hid (Byt B)) (bB:B.length<=1000000) (bS:Hid (jt (n,t,B,())=true)) (bP:Hid (zx (n,t,B,())=k))
  (bg:Hid (vG k (xQ (B,0)) (xQ (tkS (B,0) 4)) (tkS (tkS (B,0) 4) 4)=D)):
  Calls prog 281 #[θ #[υ n,υ t,δ ai B.length ad]] w λe w'=>(∃va vl,e= .returned (.tuple #[θ #[ι D.1.kind,ω D.1.snd,ω D.1.med,va,vl],ι D.2])/\DY w' va vl D.1/\jS w va/\jS w vl)/\qa w w':=by
 have bj:=κ (xS (w:=(w.alloc (.cells #[υ n,υ t,δ ai B.length ad] 291)).alloc (.cells Γg 283)) (n,t,B,()) (bp.o.keep ((qa.alloc _ _).al _)) bB);have bb:=κ (qq (qk w (.cells #[υ n,υ t,δ ai B.length ad] 291)) (.cells Γg 283));have bc:=κ (qB (w:=w.alloc (.cells #[υ n,υ t,δ ai B.length ad] 291)) (n:=w.heap.size+1) (o:=(.cells Γg 283)) η);obtain⟨ak,aP⟩: ∃x,num (tkB B 4)=x:=⟨_,rfl⟩;obtain⟨G,aE⟩: ∃x,num (tkB (tkS (B,0) 4).1 4)=x:=⟨_,rfl⟩;obtain⟨d,aQ⟩: ∃x,tkS (tkS (B,0) 4) 4=x:=⟨_,rfl⟩;have bM:Hid (vG k ak G d=D):=κ (by rw[<-aP,<-aE,<-aQ];exact bg.o);have bh:=κ aP;have bi:=κ aE;have bk:=κ aQ;have cr:0<=G:=by
  have:=JG (s:=tkS (B,0) 4) (jH (s:=(B,0)) bf.o 4);rw[<-aE];exact this.1
 clear aP aE aQ bg;have cq: ¬k=0:=by omega
 have bQ:=κ bA;clear bA
 go_enter func281,ntmps281
 go_upto_region 9 with (first | (go_at_call 260;(go_call bj.o as e cA ⟨rfl,aF⟩;rw[bS.o];have au:=κ (qc aF bb.o);have aH:=κ (qc aF bc.o);have bn:=κ (((qa.alloc w (.cells #[υ n,υ t,δ ai B.length ad] 291)).al (.cells Γg 283)).trans aF);clear aF;have cl:=β0 au.o;have cm:=β1 au.o;have ba:=β2 au.o)) | (go_at_call 306;(go_call XQ n t B ai ad _ as e w4 ⟨rfl,ax⟩;rw[bP.o];have aG:=κ (qq (qc ax au.o) (.cells #[ι k,ω 0,ω 0,(),()] 283));have bd:=κ (qq (qc ax aH.o) (.cells #[ι k,ω 0,ω 0,(),()] 283));have aN:=κ ((bn.o.trans ax).al (.cells #[ι k,ω 0,ω 0,(),()] 283));have be:=κ (qk w4 (.cells #[ι k,ω 0,ω 0,(),()] 283));have bw:=κ (Nat.lt_of_lt_of_le (ql aH.o) ax.size);clear ax cl cm ba;have ba:=β2 aG.o)) | (go_at_call 51;(go_call kr _ B _ (bp.o.keep aN.o) bf.o bB as e w6 ⟨R,rfl,bz,bG,ay⟩;have aL:Hid (MdJ w w6 R w4.heap.size (λg=>(w4.alloc (.cells #[ι k,ω 0,ω 0,(),()] 283)).heap.size<=g/\g<w6.heap.size) (.cells #[υ n,υ t,δ ai B.length ad] 291) (.cells Γg 283) #[ι k,ω 0,ω 0,(),()] (B,0)):=κ ⟨bG,qc ay aG.o,qc ay bd.o,qc ay be.o,aN.o.trans ay,bw.o,by (have:=bz;simp at this;omega),λg h=>by (have:=h.1;simp at this;omega)⟩;clear bz bG ay ba)) | (go_at_call 54;((with_reducible refine(jz aL.o.rd).mono ?_);rintro e cB ⟨rfl,bH,br⟩;rw[bh.o];have aC:=κ (aL.o.read (s':=tkS (B,0) 4) bH br);clear bH br;have cj:=β1 aC.o.bm;have cn:=qd aC.o.bm 1;have aM:=κ (aC.o.set 1 (ω ak)))) | (go_at_call 54;((with_reducible refine(jz aM.o.rd).mono ?_);rintro e w8 ⟨rfl,bI,bs⟩;rw[bi.o];have aD:=κ (aM.o.read (s':=tkS (tkS (B,0) 4) 4) bI bs);clear bI bs cj cn;have aU:=β2 aD.o.bm;have co:=qd aD.o.bm 2;have H:=κ ((aD.o.set 2 (ω G)).eq (cs':= #[ι k,ω ak,ω G,(),()]) rfl);have bE:=β0 H.o.bm)))
 rw[bk.o] at H;generalize ch:(λg=>(w4.alloc (.cells #[ι k,ω 0,ω 0,(),()] 283)).heap.size<=g/\g<w6.heap.size)=C at *;clear ch bb bc au aH bn aG bd aN be aL aC aM aD bj bh bi bk aU co bw;generalize w4.heap.size=Bm at *;generalize w8.setCell ⟨Bm,2,none⟩ (ω G)=w9 at *;have bE:=β0 H.o.bm
 go_upto_block 0 with fail
 go_cut [] from 27 to 62 (λar=> ∃(ah aj:Option Addr) (af ag ac ae:Nat) (S:RdS) (m:Msg),MdJ w ar R Bm C (.cells #[υ n,υ t,δ ai B.length ad] 291) (.cells Γg 283) #[ι k,ω ak,ω G,δ ah af ac,δ aj ag ae] S/\vG k ak G d=kh m S/\(m.kind=k/\m.snd=ak/\m.med=G)/\DY ar (δ ah af ac) (δ aj ag ae) m/\(jS w (δ ah af ac)/\jS w (δ aj ag ae))/\ ∀b,((δ ah af ac).ownBlock=some b∨(δ aj ag ae).ownBlock=some b)-> ¬b=w.heap.size+1)
 case first=>
  rcases bQ.o with rfl | rfl | rfl
  ·go_wp2;go_meet;exact⟨_,_,_,_,_,_,d,_,H.o,Fe _ _ _,⟨rfl,rfl,rfl⟩,⟨SlP.nil _ _ _,SlI.nil _ _⟩,⟨jS.nil w,jS.nil w⟩,λb h=>by rcases h with h | h<;>cases h⟩
  ·have aU:=β2 H.o.bm
   go_upto_region 11 with fail
   obtain⟨Q,bx⟩: ∃Q:Bool,Q=decide (¬G=0∨d.1.length=0∨ ¬d.1.length%8=0):=⟨_,rfl⟩;have ao:=κ bx;clear bx
   go_cut [44] from 31 to 43 (λv ar=>v= μ Q/\w9=ar)
   case first=>
    by_cases c1:G=0
    ·have bm:(G != 0)=false:=by simpa using c1
     by_cases c2:d.1.length=0
     ·have bV:((d.1.length:Int)==0)=true:=eqB τ;have U:Hid (true=Q):=κ (by rw[ao.o];exact(decide_eq_true (Or.inr (Or.inl c2))).symm);clear c1 c2
      go_wp2_with (go_at_call 57;(go_call yi H.o.rd as e w10 ⟨rfl,rfl⟩))
      go_meet;rw[<-U.o];exact⟨rfl,rfl⟩
     ·have bV:((d.1.length:Int)==0)=false:=neB τ;by_cases c3:d.1.length%8=0
      ·have bW:((d.1.length:Int)%8 != 0)=false:=by simp;omega
       have U:Hid (false=Q):=κ (by rw[ao.o];exact(decide_eq_false (by rintro(h | h | h);exact h c1;exact c2 h;exact h c3)).symm);clear c1 c2 c3
       go_wp2_with (go_at_call 57;(go_call yi H.o.rd as e w10 ⟨rfl,rfl⟩))
       go_meet;rw[<-U.o];exact⟨rfl,rfl⟩
      ·have bW:((d.1.length:Int)%8 != 0)=true:=by simp;omega
       have U:Hid (true=Q):=κ (by rw[ao.o];exact(decide_eq_true (Or.inr (Or.inr c3))).symm);clear c1 c2 c3
       go_wp2_with (go_at_call 57;(go_call yi H.o.rd as e w10 ⟨rfl,rfl⟩))
       go_meet;rw[<-U.o];exact⟨rfl,rfl⟩
    ·have bm:(G != 0)=true:=by simpa using c1
     have U:Hid (true=Q):=κ (by rw[ao.o];exact(decide_eq_true (Or.inl c1)).symm);clear c1
     go_wp2_with (go_at_call 57;(go_call yi H.o.rd as e w10 ⟨rfl,rfl⟩))
     go_meet;rw[<-U.o];exact⟨rfl,rfl⟩
   case rest=>
   obtain⟨rfl,rfl⟩:=hcut
   go_upto_if 44 with fail
   go_cut [] from 45 to 46 (λar=>MdJ w ar R Bm C (.cells #[υ n,υ t,δ ai B.length ad] 291) (.cells Γg 283) #[ι 2,ω ak,ω G,(),()] (zy G d))
   case first=>
    have bT:=κ (zn (s:=d) H.o.rd 2);cases Q with
    | true=>
     have U:Hid (zy G d=wrS d 2):=κ (by unfold zy;rw[if_pos (of_decide_eq_true ao.o.symm)])
     go_wp2_with (first | (go_at_call 55;(go_call bT.o as e cz ⟨rfl,bF,bq⟩;have bU:=κ (H.o.read (s':=wrS d 2) bF bq);clear bF bq)))
     go_meet;rw[U.o];exact bU.o
    | false=>
     have U:Hid (zy G d=d):=κ (by unfold zy;rw[if_neg (of_decide_eq_false ao.o.symm)]);go_wp2;go_meet;rw[U.o];exact H.o
   case rest=>
   have aq:=κ hcut;clear hcut H aU ao;have bR:=κ (Yd G d);have ci:R<wc.heap.size:=by obtain⟨v,aO,_⟩:=aq.o.rd.blk;exact ql aO
   go_wp2_with (go_at_call 307;(go_call Vf (s0:=zy G d) aq.o.rd ci as e aA ⟨ck,rfl,aa⟩;have ab:=κ aa;have ap:=κ (aq.o.read (s':=(jk (zy G d).1.length [] (zy G d)).2) (aa.rd.mono (λg h=>h.1)) aa.away);obtain⟨O,N,J,rfl,aS,aT⟩:=aa.row.shape;clear aS aT aa;have cx:=β3 ap.o.bm;have z3:=qd ap.o.bm 3;have I:=κ ((ap.o.set 3 (δ O N J)).eq (cs':= #[ι 2,ω ak,ω G,δ O N J,()]) rfl)))
   have aK:Hid (SlP 2 Vl (aA.setCell ⟨Bm,3,none⟩ (δ O N J)) (δ O N J) (jk (zy G d).1.length [] (zy G d)).1):=κ (JD (ab.o.row.sl ζ) (λb Y e=>by have:=ab.o.row.ge Y;have:=ql aq.o.bm;omega) ((qg.refl (λb=>b=Bm) aA).set (p:=⟨Bm,3,none⟩) rfl _));have aJ:Hid (∀b,(δ O N J).ownBlock=some b-> ¬b=w.heap.size+1):=κ (λb Y e=>by have:=ab.o.row.ge Y;have:=ql aq.o.b1;omega);have aI:Hid (jS w (δ O N J)):=κ (λb Y=>by have:=ab.o.row.ge Y;have:=ql aq.o.b1;omega);have bO:=κ (uM (zy G d).1.length d.1.length [] (zy G d) (Nat.le_refl _) bR.o);go_meet;exact⟨_,_,_,_,_,_,_,_,I.o,(by rw[Fd,bO.o]),⟨rfl,rfl,rfl⟩,⟨aK.o,SlI.nil _ _⟩,⟨aI.o,jS.nil w⟩,λb h=>by rcases h with h | h;exact aJ.o b h;cases h⟩
  ·go_wp2_with (go_at_call 308;(go_call Ve (s0:=d) H.o.rd (by obtain⟨v,aO,_⟩:=H.o.rd.blk;exact ql aO) as e aA ⟨ck,rfl,aa⟩;have ab:=κ aa;have ap:=κ (H.o.read (s':=(qY d.1.length [] (xM d)).2) (aa.rd.mono (λg h=>h.1)) aa.away);obtain⟨O,N,J,rfl,aS,aT⟩:=qU aa.row;clear aS aT aa;have cy:=β4 ap.o.bm;have z4:=qd ap.o.bm 4;have I:=κ ((ap.o.set 4 (δ O N J)).eq (cs':= #[ι 3,ω ak,ω G,(),δ O N J]) rfl)))
   have aK:Hid (SlI .u16 (aA.setCell ⟨Bm,4,none⟩ (δ O N J)) (δ O N J) (qY d.1.length [] (xM d)).1):=κ (SlI.off (SlI.of_owns ab.o.row (MJ ab.o.row)) (λb Y e=>by have:=jD ab.o.row Y;have:=ql H.o.bm;omega) ((qg.refl (λb=>b=Bm) aA).set (p:=⟨Bm,4,none⟩) rfl _));have aJ:Hid (∀b,(δ O N J).ownBlock=some b-> ¬b=w.heap.size+1):=κ (λb Y e=>by have:=jD ab.o.row Y;have:=ql H.o.b1;omega);have aI:Hid (jS w (δ O N J)):=κ (λb Y=>by have:=jD ab.o.row Y;have:=ql H.o.b1;omega);go_meet;exact⟨_,_,_,_,_,_,_,_,I.o,(by rw[Fc]),⟨rfl,rfl,rfl⟩,⟨SlP.nil _ _ _,aK.o⟩,⟨jS.nil w,aI.o⟩,λb h=>by rcases h with h | h;cases h;exact aJ.o b h⟩
 case rest=>
 obtain⟨ah,aj,af,ag,ac,ae,S,m,bD,bt,⟨rfl,rfl,rfl⟩,bJ,⟨bu,bv⟩,bC⟩:=hcut;have I:=κ bD;have bo:=κ bJ;have bK:=κ bu;have bL:=κ bv;have bl:=κ bC;have am:=bM.o;rw[bt] at am;unfold kh at am;clear bD bt bJ bu bv bC H bE;by_cases he:wO S=0
 ·rw[if_pos he] at am;have an:=κ am;have bN:=κ he;obtain⟨ct,cu,p2,cv,cw⟩:=kK I.o.bm;obtain⟨cc,cd,ce,cf,cg⟩:=kK I.o.b1;obtain⟨bX,bY,bZ,ca,cb⟩:=WH I.o.b1;clear am he
  go_wp2_with (go_at_call 59;(go_call JN (s:=S) I.o.rd as e aB ⟨rfl,aR⟩;subst aR;rw[bN.o]))
  have av:=JC I.o.b1 (ι m.kind) (ω m.snd) (ω m.med) (δ ah af ac) (δ aj ag ae);have a5:=qg.st5 aB (w.heap.size+1) (ι m.kind) (ω m.snd) (ω m.med) (δ ah af ac) (δ aj ag ae);have az:=qg.to_more I.o.more a5 (λb e=>by omega);obtain⟨WF,aw⟩:=ν ((((((aB.setCell ⟨w.heap.size+1,0,none⟩ (ι m.kind)).setCell ⟨w.heap.size+1,1,none⟩ (ω m.snd)).setCell ⟨w.heap.size+1,2,none⟩ (ω m.med)).setCell ⟨w.heap.size+1,3,none⟩ (δ ah af ac)).setCell ⟨w.heap.size+1,4,none⟩ (δ aj ag ae)));rw[aw] at av az ⊢ a5;clear aw;obtain⟨aV,aW,aX,aY,aZ⟩:=kK av
  (refine bodyPost_ret (v:= .tuple #[θ #[ι m.kind,ω m.snd,ω m.med,δ ah af ac,δ aj ag ae],ι 0]) ?rr3 rfl ?_;(case rr3=>(simp[results,results281,go_sem,aV,aW,aX,aY,aZ])))
  refine⟨⟨δ ah af ac,δ aj ag ae,by first | (rw[<-an.o];done) | (rw[<-an.o];rfl), ?_⟩,az⟩;rw[<-an.o];exact⟨⟨JD bo.o.asks (λb h=>bl.o b (Or.inl h)) a5,SlI.off bo.o.lost (λb h=>bl.o b (Or.inr h)) a5⟩,bK.o,bL.o⟩
 ·rw[if_neg he] at am;have an:=κ am;have cp:(wO S != 0)=true:=by simpa using he
  obtain⟨cc,cd,ce,cf,cg⟩:=kK I.o.b1;obtain⟨bX,bY,bZ,ca,cb⟩:=WH I.o.b1;clear am he
  go_wp2_with (go_at_call 59;(go_call JN (s:=S) I.o.rd as e aB ⟨rfl,aR⟩;subst aR))
  have av:=JC I.o.b1 (ι 0) (ω 0) (ω 0) (δ none 0 0) (δ none 0 0);have a5:=qg.st5 aB (w.heap.size+1) (ι 0) (ω 0) (ω 0) (δ none 0 0) (δ none 0 0);have az:=qg.to_more I.o.more a5 (λb e=>by omega);obtain⟨WF,aw⟩:=ν ((((((aB.setCell ⟨w.heap.size+1,0,none⟩ (ι 0)).setCell ⟨w.heap.size+1,1,none⟩ (ω 0)).setCell ⟨w.heap.size+1,2,none⟩ (ω 0)).setCell ⟨w.heap.size+1,3,none⟩ (δ none 0 0)).setCell ⟨w.heap.size+1,4,none⟩ (δ none 0 0)));rw[aw] at av az ⊢ a5;clear aw;obtain⟨aV,aW,aX,aY,aZ⟩:=kK av
  (refine bodyPost_ret (v:= .tuple #[Γg,ι (wO S)]) ?rr4 rfl ?_;(case rr4=>(simp[results,results281,go_sem,aV,aW,aX,aY,aZ])))
  refine⟨⟨δ none 0 0,δ none 0 0,by first | (rw[<-an.o];done) | (rw[<-an.o];rfl), ?_⟩,az⟩;rw[<-an.o];exact⟨⟨SlP.nil _ _ _,SlI.nil _ _⟩,jS.nil w,jS.nil w⟩
theorem Wp {w:World} {vb:Value} (c:qR) (O:SlI .u8 w vb c.2.2.1) (Y:xh c) (J:c.2.2.1.length<=1000000):
  Calls prog 281 #[θ #[υ c.1,υ c.2.1,vb]] w λe w'=>(∃va vl,e= .returned (.tuple #[θ #[ι (qG c).1.kind,ω (qG c).1.snd,ω (qG c).1.med,va,vl],ι (qG c).2])/\DY w' va vl (qG c).1/\jS w va/\jS w vl)/\qa w w':=by
 obtain⟨n,t,B,⟨⟩⟩:=c;obtain⟨_,_,U⟩:=Y;simp only at *;have d:=κ O;obtain⟨N,G,rfl,_⟩:=O;cases hr:jt (n,t,B,()) with
 | false=>
  have e:qG (n,t,B,())=(JS,1):=by unfold qG;rw[if_pos hr]
  rw[e];exact(DI n t B N G d J (κ hr)).mono λe w' ⟨H,I⟩=>⟨⟨_,_,H,⟨SlP.nil _ _ _,SlI.nil _ _⟩,jS.nil w,jS.nil w⟩,I⟩
 | true=>
  by_cases h0:zx (n,t,B,())=0
  ·have e:qG (n,t,B,())=(JS,5):=by unfold qG;rw[if_neg (by rw[hr];simp),if_pos h0]
   rw[e];exact(KI n t B N G d J (κ hr) (κ h0)).mono λe w' ⟨H,I⟩=>⟨⟨_,_,H,⟨SlP.nil _ _ _,SlI.nil _ _⟩,jS.nil w,jS.nil w⟩,I⟩
  ·have e:qG (n,t,B,())=vG (zx (n,t,B,())) (xQ (B,0)) (xQ (tkS (B,0) 4)) (tkS (tkS (B,0) 4) 4):=by unfold qG;rw[if_neg (by rw[hr];simp),if_neg h0]
   rw[e];exact Eg n t _ (U0 h0).2 B N G _ d (κ U) J (κ hr) (κ rfl) (κ rfl)
section
open Go.RowKit Go.Lib
structure GI (w:World) (vb va vl vo:Value) (x:Itm):Prop where
 bl:SlP 7 Yu w vb x.rep.bl
 ms:DY w va vl x.msg
 bo:SlI .u8 w vo x.oth.2.2.1
def Iv (x:Itm) (vb va vl vo:Value):List Value:=[.int .i64 x.kind,.bool x.rep.snd,.int .u32 x.rep.src,.int .u32 x.rep.inf.sec,.int .u32 x.rep.inf.frac,.int .u32 x.rep.inf.stamp,.int .u32 x.rep.inf.pkts,.int .u32 x.rep.inf.octs,vb,.int .i64 x.msg.kind,.int .u32 x.msg.snd,.int .u32 x.msg.med,va,vl,.int .u8 x.oth.1,.int .u8 x.oth.2.1,vo]
def Qu:qJ Itm:=λw cs x=> ∃vb va vl vo,cs=Iv x vb va vl vo/\GI w vb va vl vo x/\WJ x
theorem Y9 {w w':World} {b o:Nat} {cs:List Value} (h:w.rangeAt b o cs) (m:qa w w') (d:b<w.heap.size):w'.rangeAt b o cs:=λj v G=>by
 rw[m.cells b _ d];exact h j v G
theorem jQ {P:Program} {ops:Array Oper} {rest:List Oper} {o:Oper} {a:Act} {w:World} {Q:Exit->Act->World->Prop} (N:o.guard=none) (G:TypeId) (x y:Operand) (O:o.op= .store G x y)
  (H:World) (c d:Array Value) (Y:w=H.alloc (.cells c G)) (aa:a.eval x= γ H.heap.size) (ab:a.eval y= θ d)
  (hi:(P.info? G).map (·.size)=some d.size) (U:c.size=d.size) (I:d.all (·.oneCell')=true)
  (h:wpList P ops Q rest (a.put o.dst undef) (H.alloc (.cells d G))):wpList P ops Q (o::rest) a w:=by
 subst Y;refine wpList_plain N λK J=> ?_
 unfold Oper.wp execOp;simp only[O,aa,ab,Sem.run_bind,Sem.run_pure,Result.andThen_ok,run_storeAt_new H G c d hi U I];exact J _ _ h
theorem MU {w:World} {v:Value} {l:List Itm} (h:SlP 17 Qu w v l): ∃N cap,v= δ N l.length cap/\(l.length:Int)<=9223372036854775807/\(∀i,i<l.length-> ∃b ab O G U H Y I aa J,N=some ⟨b,ab,none⟩/\b<w.heap.size/\
  w.rangeAt b (ab+i* 17) (Iv (l.getD i wN) (δ O (l.getD i wN).rep.bl.length G) (δ U (l.getD i wN).msg.asks.length H) (δ Y (l.getD i wN).msg.lost.length I) (δ aa (l.getD i wN).oth.2.2.1.length J))/\
  GI w (δ O (l.getD i wN).rep.bl.length G) (δ U (l.getD i wN).msg.asks.length H) (δ Y (l.getD i wN).msg.lost.length I) (δ aa (l.getD i wN).oth.2.2.1.length J) (l.getD i wN))/\ ∀x∈l,WJ x:=by
 obtain⟨N,cap,ae,af,ag,ak⟩:=id h;refine⟨N,cap,ae,af,λi hi=> ?_,EW h (λcs y ⟨_,_,_,_,_,_,k⟩=>k)⟩;obtain⟨b,ab,cs,e,ah,am,ai,vb,an,ao,vo,rfl,d,al⟩:=ag i hi;have ad:l.getD i wN=l[i]:=by simp[hi]
 rw[ad];generalize l[i]=x at *;obtain⟨O,G,rfl,_⟩:=id d.bl;obtain⟨U,H,rfl,_⟩:=id d.ms.asks;obtain⟨Y,I,rfl,_⟩:=id d.ms.lost;obtain⟨aa,J,rfl,_⟩:=id d.bo;refine⟨b,ab,O,G,U,H,Y,I,aa,J,e,ah,λj v ac=> ?_,d⟩;have aj:j<17:=(List.getElem?_eq_some_iff.1 ac).1;rw[ai j aj];exact ac
theorem JM {w:World} {b:Nat} {t:TypeId} {a0 d Y a3 a4 a5 aa ab ac a9 G H I J N O U:Value} (h:w.heap[b]? =some (.cells #[a0,d,Y,a3,a4,a5,aa,ab,ac,a9,G,H,I,J,N,O,U] t (0,0))):
  (w.cell? ⟨b,0,none⟩=some a0/\w.cell? ⟨b,1,none⟩=some d/\w.cell? ⟨b,2,none⟩=some Y/\w.cell? ⟨b,3,none⟩=some a3/\w.cell? ⟨b,4,none⟩=some a4/\w.cell? ⟨b,5,none⟩=some a5/\w.cell? ⟨b,6,none⟩=some aa/\w.cell? ⟨b,7,none⟩=some ab/\w.cell? ⟨b,8,none⟩=some ac)/\
  (w.cell? ⟨b,9,none⟩=some a9/\w.cell? ⟨b,10,none⟩=some G/\w.cell? ⟨b,11,none⟩=some H/\w.cell? ⟨b,12,none⟩=some I/\w.cell? ⟨b,13,none⟩=some J)/\(w.cell? ⟨b,14,none⟩=some N/\w.cell? ⟨b,15,none⟩=some O/\w.cell? ⟨b,16,none⟩=some U):=
 ⟨⟨qb h 0 rfl,qb h 1 rfl,qb h 2 rfl,qb h 3 rfl,qb h 4 rfl,qb h 5 rfl,qb h 6 rfl,qb h 7 rfl,qb h 8 rfl⟩,⟨qb h 9 rfl,qb h 10 rfl,qb h 11 rfl,qb h 12 rfl,qb h 13 rfl⟩,qb h 14 rfl,qb h 15 rfl,qb h 16 rfl⟩
end
section
open Go.RowKit Go.Lib
structure EH (x:Itm):Prop where
 bl:x.rep.bl.length<=100000
 asks:x.msg.asks.length<=100000
 lost:x.msg.lost.length<=100000
 oth:x.oth.2.2.1.length<=1000000
end
section
open Go.RowKit Go.Lib
theorem Dm {l:List Int} {j:Nat} (h:j<l.length):l.drop j=l.getD j 0::l.drop (j+1):=by
 rw[List.drop_eq_getElem_cons h,List.getD_eq_getElem?_getD,List.getElem?_eq_getElem h,Option.getD_some]
theorem gj (l:List Int) (v:Value) (w:World) (aa:SlI .i64 w v l):
  Calls prog 242 #[v] w λe w'=>e= .returned (ι (vm l))/\w=w':=by
 obtain⟨ag,cap,rfl,ae,J,_⟩:=aa;have U:=κ J;clear J
 go_enter func242,ntmps242
 go_wp2
 go_loop [7] (λH=> ∃j:Nat,j<=l.length/\H= ι j/\vm l=vm (l.drop j)) (λH=>l.length-(intOf H).toNat)
 case atStart=>exact⟨0,τ,rfl,rfl⟩
 case round=>
  obtain⟨j,ad,rfl,N⟩:=hrel;have d:=κ N;clear N;by_cases hlt:j<l.length
  ·obtain⟨b,ah,rfl,ab,ac⟩:=U.o j hlt;have I:=κ (Dm hlt);have af:(j:Int)<(l.length:Int):=by omega
   generalize l.getD j 0=x at *;by_cases hx:x=0
   ·have Y:(x != 0)=false:=by simp[hx]
    have G:=κ hx;clear hx;go_wp2
    go_round
    case rel=>exact⟨j+1,τ,by go_num,by rw[d.o,I.o];show (if x=0 then _ else _)=_;rw[if_pos G.o]⟩
    case measure=>simp[intOf];omega
   ·have Y:(x != 0)=true:=by simp[hx]
    have G:=κ hx;clear hx;go_wp2;go_ret;exact⟨by rw[d.o,I.o];show _=Ending.returned (ι (if x=0 then _ else _));rw[if_neg G.o];rfl,rfl⟩
  ·obtain rfl:j=l.length:=by omega
   have O:Hid (vm l=0):=κ (by rw[d.o,List.drop_length];rfl);go_wp2;go_ret;exact⟨by rw[O.o];rfl,rfl⟩
def WL (w:World) (v vo:Value):Prop:=jS w v∨v=vo
theorem SlI.off2 {k:IntKind} {D:Nat->Prop} {w w':World} {v:Value} {l:List Int} (h:SlI k w v l) (H:l≠[]-> ∀b,v.ownBlock=some b-> ¬D b) (a:qg D w w'):SlI k w' v l:=by
 by_cases e:l=[]
 ·subst e;obtain⟨I,cap,rfl,d,J,G⟩:=h;exact⟨I,cap,rfl,d,λi hi=>by simp at hi,G⟩
 ·exact h.off (H e) a
theorem SlI.old {k:IntKind} {w:World} {v:Value} {l:List Int} (h:SlI k w v l) (H:l≠[]) {b:Nat} (d:v.ownBlock=some b):b<w.heap.size:=by
 obtain⟨U,cap,rfl,N,G,O⟩:=h;obtain⟨J,Y,rfl,I,_⟩:=G 0 (List.length_pos_iff.2 H);injection d with d
 subst d;exact I
end
section
open Go.RowKit Go.Lib
theorem wI: ∀(n:Nat) (acc:List (Int×Int)) (s:RdS),s.1.length<=n->(jk n acc s).1.length<=acc.length+s.1.length
 | 0,acc,s,_=>Nat.le_add_right _ _
 | n+1,acc,s,h=>by
  by_cases hs:s.1=[]
  ·obtain⟨l,e⟩:=s;simp only at hs;subst hs;rw[zE];exact Nat.le_add_right _ _
  ·rw[yl hs];have G:=Xu hs;have d:=wI n (acc++[(wv s).1]) (wv s).2 τ;rw[List.length_append,List.length_singleton] at d;omega
theorem wH: ∀(n:Nat) (acc:List Int) (s:RdS),s.1.length<=n->(qY n acc s).1.length<=acc.length+17* s.1.length
 | 0,acc,s,_=>Nat.le_add_right _ _
 | n+1,acc,s,h=>by
  by_cases hs:s.1=[]
  ·obtain⟨l,e⟩:=s;simp only at hs;subst hs;rw[wG];exact Nat.le_add_right _ _
  ·rw[uL hs];have G:=WZ hs;have I:=VL acc (prS s).1 (prS s).2;have d:=wH n (acc++prN (prS s).1) (gp acc (prS s).1 (prS s).2) τ;have H:=(Gb (prS s).1).2;rw[List.length_append] at d;omega
theorem PN (s:RdS):(xM s).1.length<=s.1.length:=by
 unfold xM;split
 ·exact vL s 2
 ·exact Nat.le_refl _
theorem Kp {c:qR} (h:c.2.2.1.length<=400):(qG c).1.asks.length<=100000/\(qG c).1.lost.length<=100000:=by
 have H: ∀(m:Msg) (s:RdS),m.asks.length<=100000/\m.lost.length<=100000->(kh m s).1.asks.length<=100000/\(kh m s).1.lost.length<=100000:=by
  intro m s h;unfold kh;split
  ·exact h
  ·exact⟨Nat.zero_le _,Nat.zero_le _⟩
 have I:(tkS (tkS (c.2.2.1,0) 4) 4).1.length<=400:=Nat.le_trans (uP _ _) (Nat.le_trans (uP _ _) h);unfold qG;split
 ·exact⟨Nat.zero_le _,Nat.zero_le _⟩
 ·split
  ·exact⟨Nat.zero_le _,Nat.zero_le _⟩
  ·unfold vG;generalize tkS (tkS (c.2.2.1,0) 4) 4=s at *;split
   ·have d:=Yd (xQ (tkS (c.2.2.1,0) 4)) s;have G:=wI s.1.length [] (zy (xQ (tkS (c.2.2.1,0) 4)) s) d;exact H _ _ ⟨by simp only[List.length_nil] at G ⊢;omega,Nat.zero_le _⟩
   ·split
    ·have d:=PN s;have G:=wH s.1.length [] (xM s) d;exact H _ _ ⟨Nat.zero_le _,by simp only[List.length_nil] at G ⊢;omega⟩
    ·exact H _ _ ⟨Nat.zero_le _,Nat.zero_le _⟩
end
section
open Go.RowKit Go.Lib
theorem qV.other {α:Type} {n:Nat} {R:qJ α} {D D':Nat->Prop} {w:World} {base e:Nat} {v:Value} {L:List α} (h:qV n R D w base e v L) (k: ∀b,D' b->D b∨w.heap.size<=b):qV n R D' w base e v L:=by
 obtain⟨⟨xs,G,H⟩,I⟩:=id h;refine⟨⟨xs,G,λi hi=>(H i hi).other λb d=> ?_⟩,λb d J=> ?_⟩
 ·rcases d with d | d
  ·exact(k b d).elim (λx=>Or.inl (Or.inl x)) Or.inr
  ·exact Or.inl (Or.inr d)
 ·rcases k b J with x | x
  ·exact I b d x
  ·have:=h.lt d;omega
theorem qV.beside {α:Type} {n:Nat} {R:qJ α} {w w':World} {base e:Nat} {v u G:Value} {L:List α} (h:qV n R (λb=>u.ownBlock=some b) w base e v L) (g:w.grownBy w' u.ownBlock) (N:G.ownBlock=u.ownBlock∨G.ownBlock=some w.heap.size):qV n R (λb=>G.ownBlock=some b) w' base e v L:=by
 have H:=h.other (D':=λb=>u.ownBlock=some b∨w.heap.size<=b) (λb d=>d);have a:qg (λb=>u.ownBlock=some b∨w.heap.size<=b) w w':=⟨g.os,g.tape,g.output,g.size,λk I J=>g.block k I (λe=>J (Or.inl e.symm))⟩;refine(H.step a).other λb d=>Or.inl ?_
 rcases N with e | e
 ·exact Or.inl (by rw[<-e];exact d)
 ·rw[e] at d;injection d with d;exact Or.inr τ
theorem Dq {D:Nat->Prop} {w:World} {d:Value} {c:qR} (s:SlI .u8 w d c.2.2.1) (H:xh c) (G:c.2.2.1≠[]-> ∀g,d.ownBlock=some g-> ¬D g):jp yG D w [υ c.1,υ c.2.1,d] c:=
 λ_ a=>Kb (s.off2 G a) H
theorem xG {w:World} {base e size n:Nat} {v:Value} {xs:List Value} (h:w.ownsRow base e size v n xs): ∃oa cap,v= δ oa n cap:=by
 rcases h.2 with ⟨rfl,d⟩ | ⟨g,cap,cur,rfl,_⟩
 ·exact⟨none,0,by rw[d]⟩
 ·exact⟨_,cap,rfl⟩
structure ChJ (w wr:World) (u v:Value) (A:List qR) (E:List Int):Prop where
 row:qV 3 yG (λb=>v.ownBlock=some b) wr w.heap.size 291 u A
 errs:wr.ownsRow w.heap.size 29 1 v E.length (E.map (Value.int .i64))
 more:qa w wr
theorem ChJ.on {w wr w':World} {u v:Value} {A:List qR} {E:List Int} (h:ChJ w wr u v A E) (m:qa wr w'):ChJ w w' u v A E:=⟨h.row.on m,jy h.errs m,h.more.trans m⟩
theorem ChJ.put {w wr w':World} {u v d:Value} {A A':List qR} {E:List Int} (h:ChJ w wr u v A E) (I:qV 3 yG (λb=>v.ownBlock=some b) w' w.heap.size 291 d A') (g:wr.grownBy w' u.ownBlock):ChJ w w' d v A' E:=
 ⟨I,XE h.errs g (λb G e=>h.row.apart b e G),Below.grown h.more g h.more.size (λk H=>h.row.ge H)⟩
theorem ChJ.err {w wr w':World} {u v v':Value} {A:List qR} {E E':List Int} (h:ChJ w wr u v A E) (G:w'.ownsRow w.heap.size 29 1 v' E'.length (E'.map (Value.int .i64))) (g:wr.grownBy w' v.ownBlock) (H:v'.ownBlock=v.ownBlock∨v'.ownBlock=some wr.heap.size):ChJ w w' u v' A E':=
 ⟨h.row.beside g H,G,Below.grown h.more g h.more.size (λk d=>jD h.errs d)⟩
end
section
open Go.RowKit Go.Lib
theorem IE {w:World} {g e:Nat} {cur:Array Value} (h:w.heap[g]? =some (.cells cur e (0,0))) (cs:Array Value):(w.setRow g cs).heap[g]? =some (.cells cs e (0,0)):=setRow_heap w g cur cs e (0,0) h
theorem EZ (w:World) (g:Nat) (cs:Array Value):qg (λk=>k=g) w (w.setRow g cs):=by
 refine⟨rfl,rfl,rfl,by simp[World.setRow],λb G d=> ?_⟩;unfold World.setRow;simp only;rw[Array.getElem?_modify,if_neg (λe=>d e.symm)]
theorem yv {P:Program} {ops:Array Oper} {rest:List Oper} {o:Oper} {a:Act} {w:World} {Q:Exit->Act->World->Prop} (N:o.guard=none) (G:TypeId) (x y:Operand) (O:o.op= .store G x y)
  (g:Nat) (t:TypeId) (c d:Array Value) (J:w.heap[g]? =some (.cells c t (0,0))) (Y:a.eval x= γ g) (aa:a.eval y= θ d)
  (hi:(P.info? G).map (·.size)=some d.size) (U:c.size=d.size) (H:d.all (·.oneCell')=true)
  (h:wpList P ops Q rest (a.put o.dst undef) (w.setRow g d)):wpList P ops Q (o::rest) a w:=by
 refine wpList_plain N λK I=> ?_
 unfold Oper.wp execOp;simp only[O,Y,aa,Instr.storeAt,Instr.sureAddr,Sem.run_bind,Sem.run_pure,Result.andThen_ok,run_storeVar_row w g t G c d J hi U H];exact I _ _ h
theorem vY {P:Program} {I:Func} {p q:Tmp} {d:TypeId} (h:I.results= #[.cell p d,.tmp q]) (tmps:Array Value) (w:World) (g:Nat) (t:TypeId) (cs:Array Value) (G:TypeDesc) (H:Value)
  (O:tmps.getD p undef= γ g) (Y:tmps.getD q undef=H) (N:w.heap[g]? =some (.cells cs t (0,0)))
  (ab:P.underlying d=some G) (J:(match G with | .struct _ | .array _ _=>true | _=>false)=true) (hi:(P.info? d).map (·.size)=some cs.size):
  (results I tmps).run P w= .ok (.tuple #[θ cs,H]) w:=by
 have U:tmps[p]?.getD undef= γ g:=by simpa using O
 have aa:tmps[q]?.getD undef=H:=by simpa using Y
 simp[results,h,U,aa,asAddr,run_loadVar_row w g t d cs (0,0) G N ab J hi]
theorem Aa {w:World} {B t:Nat} {cs:Array Value} (h:w.heap[B]? =some (.cells cs t (0,0))) (cs':Array Value): ∃W,w.setRow B cs'=W/\W.heap[B]? =some (.cells cs' t (0,0))/\qg (λb=>b=B) w W:=⟨_,rfl,IE h cs',EZ _ _ _⟩
theorem XS (c:qR) (U:Option Addr) (N:Nat) (w:World) (s:SlI .u8 w (δ U c.2.2.1.length N) c.2.2.1) (ae:xh c) (av:c.2.2.1.length<=400) (aa:c.2.1=200∨c.2.1=201):
  Calls prog 241 #[θ #[υ c.1,υ c.2.1,δ U c.2.2.1.length N]] w λe w'=>(∃vb va vl vo,e= .returned (.tuple #[θ #[ι (qs c).1.kind,μ (qs c).1.rep.snd,ω (qs c).1.rep.src,ω (qs c).1.rep.inf.sec,ω (qs c).1.rep.inf.frac,ω (qs c).1.rep.inf.stamp,ω (qs c).1.rep.inf.pkts,ω (qs c).1.rep.inf.octs,vb,ι (qs c).1.msg.kind,ω (qs c).1.msg.snd,ω (qs c).1.msg.med,va,vl,υ (qs c).1.oth.1,υ (qs c).1.oth.2.1,vo],ι (qs c).2])/\GI w' vb va vl vo (qs c).1/\jS w vb/\jS w va/\jS w vl/\WL w vo (δ U c.2.2.1.length N))/\qa w w':=by
 have S:=κ s;have ah:=κ ae;have ap:c.2.2.1.length<=1000000:=by omega
 obtain⟨J,O⟩:=ν ((w.alloc (.cells #[υ c.1,υ c.2.1,δ U c.2.2.1.length N] 291)).alloc (.cells Γf 293));have Y:Hid (qa w J):=κ (by rw[<-O];exact(qa.alloc _ _).al _);have ab:Hid (J.heap[w.heap.size+1]? =some (.cells Γf 293 (0,0))):=κ (by rw[<-O];exact qB η);have I:=κ O;clear s ae O;have ag:Hid (qs c=(⟨1,(qC c).1,JS,GC⟩,(qC c).2)):=κ (by unfold qs;rw[if_pos aa]);rw[ag.o];have ai:=κ (Wq (w:=J) c (S.o.keep Y.o) ah.o ap);have H:(c.2.1==200)=true∨((c.2.1==200)=false/\(c.2.1==201)=true):=by
  rcases aa with h | h
  ·exact Or.inl (by rw[h];rfl)
  ·exact Or.inr ⟨by rw[h];rfl,by rw[h];rfl⟩
 clear aa;rcases H with b1 | ⟨b1,b2⟩
 all_goals
  go_enter func241,ntmps241
  go_wp2_with (first | (go_at_call 280;(go_call (I.o▸ai.o) as e w1 ⟨⟨vb,rfl,s1,af⟩,m⟩;have am:=κ s1;have ak:=κ af;obtain⟨G,d,rfl,_⟩:=s1;have aj:=κ (Y.o.trans (I.o▸m));have ac:=κ (qq (qc (I.o▸m) ab.o) (.cells #[μ (qC c).1.snd,ω (qC c).1.src,ω (qC c).1.inf.sec,ω (qC c).1.inf.frac,ω (qC c).1.inf.stamp,ω (qC c).1.inf.pkts,ω (qC c).1.inf.octs,δ G (qC c).1.bl.length d] 289));clear m af)) | (refine jQ rfl 289 (.tmp 4) (.tmp 19) rfl w1 _ #[μ (qC c).1.snd,ω (qC c).1.src,ω (qC c).1.inf.sec,ω (qC c).1.inf.frac,ω (qC c).1.inf.stamp,ω (qC c).1.inf.pkts,ω (qC c).1.inf.octs,δ G (qC c).1.bl.length d] rfl rfl rfl ξ rfl rfl ?_) | (refine wpList_load_row rfl 289 (.tmp 4) rfl w1.heap.size rfl _ #[μ (qC c).1.snd,ω (qC c).1.src,ω (qC c).1.inf.sec,ω (qC c).1.inf.frac,ω (qC c).1.inf.stamp,ω (qC c).1.inf.pkts,ω (qC c).1.inf.octs,δ G (qC c).1.bl.length d] _ _ (heap_alloc_new w1 _) underlying289 rfl ξ ?_) | (refine yv rfl 293 (.tmp 2) (.tmp 22) rfl (w.heap.size+1) _ _ #[ι 1,μ (qC c).1.snd,ω (qC c).1.src,ω (qC c).1.inf.sec,ω (qC c).1.inf.frac,ω (qC c).1.inf.stamp,ω (qC c).1.inf.pkts,ω (qC c).1.inf.octs,δ G (qC c).1.bl.length d,ι 0,ω 0,ω 0,(),(),υ 0,υ 0,()] ac.o rfl rfl ξ rfl (all_oneCell_toArray (by simp[Value.oneCell'])) ?_))
  obtain⟨WF,ao,an,a3⟩:=Aa ac.o #[ι 1,μ (qC c).1.snd,ω (qC c).1.src,ω (qC c).1.inf.sec,ω (qC c).1.inf.frac,ω (qC c).1.inf.stamp,ω (qC c).1.inf.pkts,ω (qC c).1.inf.octs,δ G (qC c).1.bl.length d,ι 0,ω 0,ω 0,(),(),υ 0,υ 0,()];rw[ao];have aq:=qg.to_more (aj.o.al _) a3 (λb e=>by omega);have ad:jS J (δ G (qC c).1.bl.length d):=by rw[<-I.o];exact ak.o
  have au:SlP 7 Yu WF (δ G (qC c).1.bl.length d) (qC c).1.bl:=YG (am.o.keep CD (qa.alloc _ _)) (λb H (e:b=w.heap.size+1)=>by have:=ad b H;have:=ql ab.o;omega) a3;have ar:jS w (δ G (qC c).1.bl.length d):=λb H=>by have:=ad b H;have:=Y.o.size;omega
  refine bodyPost_ret (v:= .tuple #[θ #[ι 1,μ (qC c).1.snd,ω (qC c).1.src,ω (qC c).1.inf.sec,ω (qC c).1.inf.frac,ω (qC c).1.inf.stamp,ω (qC c).1.inf.pkts,ω (qC c).1.inf.octs,δ G (qC c).1.bl.length d,ι 0,ω 0,ω 0,(),(),υ 0,υ 0,()],ι (qC c).2]) (vY results241 _ _ (w.heap.size+1) _ _ _ _ rfl rfl an underlying293 rfl ξ) rfl ?_;exact⟨⟨_,_,_,_,rfl,⟨au,⟨SlP.nil _ _ _,SlI.nil _ _⟩,SlI.nil _ _⟩,ar,jS.nil w,jS.nil w,Or.inl (jS.nil w)⟩,aq⟩
theorem Wt (c:qR) (U:Option Addr) (N:Nat) (w:World) (s:SlI .u8 w (δ U c.2.2.1.length N) c.2.2.1) (aA:xh c) (aB:c.2.2.1.length<=400) (ad: ¬c.2.1=200) (ae: ¬c.2.1=201):
  Calls prog 241 #[θ #[υ c.1,υ c.2.1,δ U c.2.2.1.length N]] w λe w'=>(∃vb ah ai vo,e= .returned (.tuple #[θ #[ι (qs c).1.kind,μ (qs c).1.rep.snd,ω (qs c).1.rep.src,ω (qs c).1.rep.inf.sec,ω (qs c).1.rep.inf.frac,ω (qs c).1.rep.inf.stamp,ω (qs c).1.rep.inf.pkts,ω (qs c).1.rep.inf.octs,vb,ι (qs c).1.msg.kind,ω (qs c).1.msg.snd,ω (qs c).1.msg.med,ah,ai,υ (qs c).1.oth.1,υ (qs c).1.oth.2.1,vo],ι (qs c).2])/\GI w' vb ah ai vo (qs c).1/\jS w vb/\jS w ah/\jS w ai/\WL w vo (δ U c.2.2.1.length N))/\qa w w':=by
 have S:=κ s;have aC:=κ aA;have aE:c.2.2.1.length<=1000000:=by omega
 obtain⟨aa,af⟩:=ν ((w.alloc (.cells #[υ c.1,υ c.2.1,δ U c.2.2.1.length N] 291)).alloc (.cells Γf 293));have ac:Hid (qa w aa):=κ (by rw[<-af];exact(qa.alloc _ _).al _);have az:Hid (aa.heap[w.heap.size]? =some (.cells #[υ c.1,υ c.2.1,δ U c.2.2.1.length N] 291 (0,0))):=κ (by rw[<-af];exact qq (qk w _) _);have aj:Hid (aa.heap[w.heap.size+1]? =some (.cells Γf 293 (0,0))):=κ (by rw[<-af];exact qB η);have J:=κ af;clear s aA af;have aK:(c.2.1==200)=false:=beq_eq_false_iff_ne.2 ad;have aL:(c.2.1==201)=false:=beq_eq_false_iff_ne.2 ae;have aw:=κ (Wp (w:=aa) c (S.o.keep ac.o) aC.o aE);by_cases h5:(qG c).2=5
 ·have am:Hid (qs c=(⟨3,Qr,JS,c⟩,0)):=κ (by unfold qs;rw[if_neg (λe=>e.elim ad ae),if_pos h5]);rw[am.o];have aD:((qG c).2==5)=true:=by rw[h5];rfl
  clear ad ae h5
  go_enter func241,ntmps241
  go_wp2_with (first | (go_at_call 281;(go_call (J.o▸aw.o) as e w1 ⟨⟨ah,ai,rfl,s1,ag,n2⟩,m⟩;have an:=κ s1;have ax:=κ ag;have ay:=κ n2;obtain⟨⟨H,d,rfl,_⟩,⟨I,G,rfl,_⟩⟩:=id s1;have ak:=κ (ac.o.trans (J.o▸m));have ab:=κ (qq (qc (J.o▸m) aj.o) (.cells #[ι (qG c).1.kind,ω (qG c).1.snd,ω (qG c).1.med,δ H (qG c).1.asks.length d,δ I (qG c).1.lost.length G] 283));have Y:=κ (qq (qc (J.o▸m) az.o) (.cells #[ι (qG c).1.kind,ω (qG c).1.snd,ω (qG c).1.med,δ H (qG c).1.asks.length d,δ I (qG c).1.lost.length G] 283));have aH:=β0 Y.o;have aI:=β1 Y.o;have aJ:=β2 Y.o;clear m ag n2 s1)) | (refine jQ rfl 283 (.tmp 6) (.tmp 27) rfl w1 _ #[ι (qG c).1.kind,ω (qG c).1.snd,ω (qG c).1.med,δ H (qG c).1.asks.length d,δ I (qG c).1.lost.length G] rfl rfl rfl ξ rfl rfl ?_) | (refine yv rfl 293 (.tmp 2) (.tmp 32) rfl (w.heap.size+1) _ _ #[ι 3,false,ω 0,ω 0,ω 0,ω 0,ω 0,ω 0,(),ι 0,ω 0,ω 0,(),(),υ c.1,υ c.2.1,δ U c.2.2.1.length N] ab.o rfl rfl ξ rfl (all_oneCell_toArray (by simp[Value.oneCell'])) ?_))
  obtain⟨WF,ap,ao,a3⟩:=Aa ab.o #[ι 3,false,ω 0,ω 0,ω 0,ω 0,ω 0,ω 0,(),ι 0,ω 0,ω 0,(),(),υ c.1,υ c.2.1,δ U c.2.2.1.length N];rw[ap];have aq:=qg.to_more (ak.o.al _) a3 (λb e=>by omega);have ar:SlI .u8 WF (δ U c.2.2.1.length N) c.2.2.1:=SlI.off2 (S.o.keep (ak.o.al _)) (λaB b O (e:b=w.heap.size+1)=>by have:=S.o.old aB O;omega) a3;refine bodyPost_ret (v:= .tuple #[θ #[ι 3,false,ω 0,ω 0,ω 0,ω 0,ω 0,ω 0,(),ι 0,ω 0,ω 0,(),(),υ c.1,υ c.2.1,δ U c.2.2.1.length N],ι 0]) (vY results241 _ _ (w.heap.size+1) _ _ _ _ rfl rfl ao underlying293 rfl ξ) rfl ?_;exact⟨⟨_,_,_,_,rfl,⟨SlP.nil _ _ _,⟨SlP.nil _ _ _,SlI.nil _ _⟩,ar⟩,jS.nil w,jS.nil w,jS.nil w,Or.inr rfl⟩,aq⟩
 ·have am:Hid (qs c=(⟨2,Qr,(qG c).1,GC⟩,(qG c).2)):=κ (by unfold qs;rw[if_neg (λe=>e.elim ad ae),if_neg h5]);rw[am.o];have aD:((qG c).2==5)=false:=beq_eq_false_iff_ne.2 h5;clear ad ae h5
  go_enter func241,ntmps241
  go_wp2_with (first | (go_at_call 281;(go_call (J.o▸aw.o) as e w1 ⟨⟨ah,ai,rfl,s1,ag,n2⟩,m⟩;have an:=κ s1;have ax:=κ ag;have ay:=κ n2;obtain⟨⟨H,d,rfl,_⟩,⟨I,G,rfl,_⟩⟩:=id s1;have ak:=κ (ac.o.trans (J.o▸m));have ab:=κ (qq (qc (J.o▸m) aj.o) (.cells #[ι (qG c).1.kind,ω (qG c).1.snd,ω (qG c).1.med,δ H (qG c).1.asks.length d,δ I (qG c).1.lost.length G] 283));have Y:=κ (qq (qc (J.o▸m) az.o) (.cells #[ι (qG c).1.kind,ω (qG c).1.snd,ω (qG c).1.med,δ H (qG c).1.asks.length d,δ I (qG c).1.lost.length G] 283));have aH:=β0 Y.o;have aI:=β1 Y.o;have aJ:=β2 Y.o;clear m ag n2 s1)) | (refine jQ rfl 283 (.tmp 6) (.tmp 27) rfl w1 _ #[ι (qG c).1.kind,ω (qG c).1.snd,ω (qG c).1.med,δ H (qG c).1.asks.length d,δ I (qG c).1.lost.length G] rfl rfl rfl ξ rfl rfl ?_) | (refine wpList_load_row rfl 283 (.tmp 6) rfl w1.heap.size rfl _ #[ι (qG c).1.kind,ω (qG c).1.snd,ω (qG c).1.med,δ H (qG c).1.asks.length d,δ I (qG c).1.lost.length G] _ _ (heap_alloc_new w1 _) underlying283 rfl ξ ?_) | (refine yv rfl 293 (.tmp 2) (.tmp 34) rfl (w.heap.size+1) _ _ #[ι 2,false,ω 0,ω 0,ω 0,ω 0,ω 0,ω 0,(),ι (qG c).1.kind,ω (qG c).1.snd,ω (qG c).1.med,δ H (qG c).1.asks.length d,δ I (qG c).1.lost.length G,υ 0,υ 0,()] ab.o rfl rfl ξ rfl (all_oneCell_toArray (by simp[Value.oneCell'])) ?_))
  obtain⟨WF,ap,ao,a3⟩:=Aa ab.o #[ι 2,false,ω 0,ω 0,ω 0,ω 0,ω 0,ω 0,(),ι (qG c).1.kind,ω (qG c).1.snd,ω (qG c).1.med,δ H (qG c).1.asks.length d,δ I (qG c).1.lost.length G,υ 0,υ 0,()];rw[ap];have aq:=qg.to_more (ak.o.al _) a3 (λb e=>by omega);have au:jS aa (δ H (qG c).1.asks.length d):=by rw[<-J.o];exact ax.o
  have av:jS aa (δ I (qG c).1.lost.length G):=by rw[<-J.o];exact ay.o
  have ar:DY WF (δ H (qG c).1.asks.length d) (δ I (qG c).1.lost.length G) (qG c).1:=⟨JD (an.o.asks.keep CE (qa.alloc _ _)) (λb O (e:b=w.heap.size+1)=>by have:=au b O;have:=ql aj.o;omega) a3,SlI.off (an.o.lost.keep (qa.alloc _ _)) (λb O (e:b=w.heap.size+1)=>by have:=av b O;have:=ql aj.o;omega) a3⟩;have aF:jS w (δ H (qG c).1.asks.length d):=λb O=>by have:=au b O;have:=ac.o.size;omega
  have aG:jS w (δ I (qG c).1.lost.length G):=λb O=>by have:=av b O;have:=ac.o.size;omega
  refine bodyPost_ret (v:= .tuple #[θ #[ι 2,false,ω 0,ω 0,ω 0,ω 0,ω 0,ω 0,(),ι (qG c).1.kind,ω (qG c).1.snd,ω (qG c).1.med,δ H (qG c).1.asks.length d,δ I (qG c).1.lost.length G,υ 0,υ 0,()],ι (qG c).2]) (vY results241 _ _ (w.heap.size+1) _ _ _ _ rfl rfl ao underlying293 rfl ξ) rfl ?_;exact⟨⟨_,_,_,_,rfl,⟨SlP.nil _ _ _,ar,SlI.nil _ _⟩,jS.nil w,aF,aG,Or.inl (jS.nil w)⟩,aq⟩
theorem Wu (c:qR) (G:Option Addr) (d:Nat) (w:World) (s:SlI .u8 w (δ G c.2.2.1.length d) c.2.2.1) (H:xh c) (I:c.2.2.1.length<=400):
  Calls prog 241 #[θ #[υ c.1,υ c.2.1,δ G c.2.2.1.length d]] w λe w'=>(∃vb va vl vo,e= .returned (.tuple #[θ #[ι (qs c).1.kind,μ (qs c).1.rep.snd,ω (qs c).1.rep.src,ω (qs c).1.rep.inf.sec,ω (qs c).1.rep.inf.frac,ω (qs c).1.rep.inf.stamp,ω (qs c).1.rep.inf.pkts,ω (qs c).1.rep.inf.octs,vb,ι (qs c).1.msg.kind,ω (qs c).1.msg.snd,ω (qs c).1.msg.med,va,vl,υ (qs c).1.oth.1,υ (qs c).1.oth.2.1,vo],ι (qs c).2])/\GI w' vb va vl vo (qs c).1/\jS w vb/\jS w va/\jS w vl/\WL w vo (δ G c.2.2.1.length d))/\qa w w':=by
 by_cases h1:c.2.1=200
 ·exact XS c G d w s H I (Or.inl h1)
 ·by_cases h2:c.2.1=201
  ·exact XS c G d w s H I (Or.inr h2)
  ·exact Wt c G d w s H I h1 h2
end
section
open Go.RowKit Go.Lib
theorem FO {D:Nat->Prop} {w:World} {vb d G vo:Value} {x:Itm} (s:GI w vb d G vo x) (O:WJ x) (I: ∀g,vb.ownBlock=some g-> ¬D g) (H: ∀g,d.ownBlock=some g-> ¬D g) (J: ∀g,G.ownBlock=some g-> ¬D g) (N:x.oth.2.2.1≠[]-> ∀g,vo.ownBlock=some g-> ¬D g):jp Qu D w (Iv x vb d G vo) x:=
 λ_ a=>⟨vb,d,G,vo,rfl,⟨YG s.bl I a,⟨JD s.ms.asks H a,s.ms.lost.off J a⟩,s.bo.off2 N a⟩,O⟩
theorem CG {c:qR} (d:xh c):WJ (qs c).1:=by
 unfold qs;split
 ·exact⟨BM d,gJ,Gf⟩
 split
 ·exact⟨WY,gJ,d⟩
 ·exact⟨WY,BN d,Gf⟩
theorem Xi {k:List qR} (h:szC k<=200) (i:Nat) (hi:i<k.length):(k.getD i xt).2.2.1.length<=400/\k.length<=200:=by
 have H:(k.getD i xt).2.2.1.length+4<=szC k:=by
  have:=Xh k i hi;have:=Al k (i+1);omega
 have d: ∀j,j<=k.length->j<=szC (k.take j):=by
  intro j
  induction j with
  | zero=>intro _;omega
  | succ j ih=>
   intro I;have:=Xh k j τ;have:=ih τ;omega
 have G:=d k.length (Nat.le_refl _);rw[List.take_length] at G;omega
structure ItJ (w wr:World) (u v:Value) (A:List Itm) (E:List Int):Prop where
 row:qV 17 Qu (λb=>v.ownBlock=some b) wr w.heap.size 293 u A
 errs:wr.ownsRow w.heap.size 29 1 v E.length (E.map (Value.int .i64))
 more:qa w wr
theorem ItJ.on {w wr w':World} {u v:Value} {A:List Itm} {E:List Int} (h:ItJ w wr u v A E) (m:qa wr w'):ItJ w w' u v A E:=⟨h.row.on m,jy h.errs m,h.more.trans m⟩
theorem ItJ.put {w wr w':World} {u v d:Value} {A A':List Itm} {E:List Int} (h:ItJ w wr u v A E) (I:qV 17 Qu (λb=>v.ownBlock=some b) w' w.heap.size 293 d A') (g:wr.grownBy w' u.ownBlock):ItJ w w' d v A' E:=
 ⟨I,XE h.errs g (λb G e=>h.row.apart b e G),Below.grown h.more g h.more.size (λk H=>h.row.ge H)⟩
theorem ItJ.err {w wr w':World} {u v v':Value} {A:List Itm} {E E':List Int} (h:ItJ w wr u v A E) (G:w'.ownsRow w.heap.size 29 1 v' E'.length (E'.map (Value.int .i64))) (g:wr.grownBy w' v.ownBlock) (H:v'.ownBlock=v.ownBlock∨v'.ownBlock=some wr.heap.size):ItJ w w' u v' A E':=
 ⟨h.row.beside g H,G,Below.grown h.more g h.more.size (λk d=>jD h.errs d)⟩
theorem uY {w wr G:World} {u v x:Value} {A:List Itm} {E:List Int} (h:ItJ w wr u v A E) (J:wr.heap.size<=G.heap.size) (f:jS G x): ∀g,x.ownBlock=some g-> ¬(v.ownBlock=some g∨u.ownBlock=some g):=by
 intro g H d;have I:=f g H;rcases d with d | d
 ·have:=gI h.errs d;omega
 ·have:=h.row.lt d;omega
theorem U5 {w wr Y:World} {u v:Value} {N O:Option Addr} {U J:Nat} {A:List Itm} {E:List Int} {c G:List Int} (h:ItJ w wr u v A E) (f:WL Y (δ N c.length U) (δ O G.length J)) (ad:SlI .u8 w (δ O G.length J) G) (ac:wr.heap.size<=Y.heap.size):
  c≠[]-> ∀g,(δ N c.length U).ownBlock=some g-> ¬(v.ownBlock=some g∨u.ownBlock=some g):=by
 intro ab g I d;rcases f with f | f
 ·exact uY h ac f g I d
 ·have H:=f;injection H with _ H _
  have aa:G≠[]:=λe=>ab (List.eq_nil_of_length_eq_zero (by rw[H,e];rfl))
  rw[f] at I;have ae:=ad.old aa I;rcases d with d | d
  ·have:=jD h.errs d;omega
  ·have:=h.row.ge d;omega
theorem DG (b:List Int) (v:Value) (w:World) (H:SlI .u8 w v b) (O:Byt b) (U:b.length<=1000000) (d: ¬(jG b).2=0):
  Calls prog 188 #[v] w λe w'=> ∃vx,e= .returned (.tuple #[vx,ι (zi b).2])/\SlP 17 Qu w' vx (zi b).1/\qa w w':=by
 have J:=κ (Yf v b w H O U);have I:Hid (zi b=([],(jG b).2)):=κ (by unfold zi;rw[if_neg d]);have Y:((jG b).2 != 0)=true:=by simp[d]
 clear H d;rw[I.o]
 go_enter func188,ntmps188
 go_wp2_with (go_at_call 240;(go_call J.o as e w1 ⟨aa,rfl,s1,G⟩;have N:=κ G;clear s1 G))
 go_ret2
 exact⟨_,rfl,SlP.nil _ _ _,N.o⟩
theorem Wo (b:List Int) (v:Value) (w:World) (sl:SlI .u8 w v b) (aD:Byt b) (bf:b.length<=1000000) (ae:(jG b).2=0):
  Calls prog 188 #[v] w λe w'=> ∃vx,e= .returned (.tuple #[vx,ι (zi b).2])/\SlP 17 Qu w' vx (zi b).1/\qa w w':=by
 obtain⟨bm,hi,bg,bh,bi⟩:=info_parts (P:=prog) (e:=293) (z:= Γf) (size:=17) (bytes:=160) ξ;obtain⟨bn,bp,bq,br,bs⟩:=info_parts (P:=prog) (e:=29) (z:= ι 0) (size:=1) (bytes:=8) ξ;have ac:=κ (Yf v b w sl aD bf);have ay:Hid (szC (jG b).1<=200):=κ (Q7 aD (k:=(jG b).1) (by rw[<-ae])).2.2.2;have G:Hid (zi b=if vm ((jG b).1.map λc=>(qs c).2)=0 then ((jG b).1.map λc=>(qs c).1,0) else ([],vm ((jG b).1.map λc=>(qs c).2))):=κ (by unfold zi;rw[if_pos ae]);have aT:=κ ae;clear sl ae;generalize (jG b).1=l at *
 go_enter func188,ntmps188
 go_wp2_with (go_at_call 240;(go_call ac.o as e w1 ⟨bN,rfl,s1,aL⟩;rw[aT.o];have bu:=κ s1;have az:=κ aL;obtain⟨bI,cap,rfl,bD,aG⟩:=Av s1;have aV:=κ aG;clear s1 aL aG))
 have aZ:Hid (ItJ w1 w1 (δ none 0 0) (δ none 0 0) [] []):=κ ⟨qV.nil _ _ _ _ _ _,World.ownsRow_nil _ _ _ _,qa.refl _⟩;clear ac
 go_loopw [6,7,23] (λu v an wr=> ∃(j:Nat),j<=l.length/\an= ι j/\(∃ar ao ah au ap ai,u= δ ar ao ah/\v= δ au ap ai/\ItJ w1 wr (δ ar ao ah) (δ au ap ai) ((l.take j).map λc=>(qs c).1) ((l.take j).map λc=>(qs c).2))) (λ_ _ an _=>l.length-(intOf an).toNat)
 case atStart=>exact⟨0,τ,rfl,_,_,_,_,_,_,rfl,rfl,aZ.o⟩
 case round=>
  obtain⟨j,bB,rfl,ar,ao,ah,au,ap,ai,rfl,rfl,aC⟩:=hrel;have d:=κ aC;clear aC;by_cases hlt:j<l.length
  ·obtain⟨bw,bJ,vb,rfl,bd,am⟩:=aV.o j hlt;obtain⟨bx,c1,c2,aJ,aF⟩:=am.more d.o.more bd;have aX:=κ am.sl;have av:=κ aF;have aY:=κ aJ;obtain⟨aE,bE⟩:=Xi ay.o j hlt;have aU:=κ aE;have bC:(j:Int)<(l.length:Int):=by omega
   have ac:=κ (kC l j xt hlt);have aw:Hid ((l.take j).length=j/\j<=200):=κ ⟨by simp;omega,τ⟩;clear am aF aE;generalize l.take j=acc at *;generalize l.getD j xt=c at *;obtain⟨aq,ag,rfl,_⟩:=aJ
   go_wp2_with (first | (go_at_call 241;(go_call Wu c aq ag _ (aY.o.keep (qa.alloc _ _)) av.o aU.o as e w2 ⟨⟨bM,bL,bO,bP,rfl,s2,n2,aN,aO,aB⟩,aM⟩;have bc:=κ s2;obtain⟨U,H,rfl,_⟩:=id s2.bl;obtain⟨Y,I,rfl,_⟩:=id s2.ms.asks;obtain⟨aa,J,rfl,_⟩:=id s2.ms.lost;obtain⟨ab,N,rfl,_⟩:=id s2.bo;have O:=(qa.alloc wr (.cells #[υ c.1,υ c.2.1,δ aq c.2.2.1.length ag] 291)).size;have aP:=κ (uY d.o O n2);have aQ:=κ (uY d.o O aN);have aR:=κ (uY d.o O aO);have aS:=κ (U5 d.o aB aX.o O);have bb:=κ ((qa.alloc wr (.cells #[υ c.1,υ c.2.1,δ aq c.2.2.1.length ag] 291)).trans aM);clear aM n2 aN aO aB s2 O;have ad:=κ ((d.o.on bb.o).on ((qa.alloc w2 (.cells #[ι (qs c).1.kind,μ (qs c).1.rep.snd,ω (qs c).1.rep.src,ω (qs c).1.rep.inf.sec,ω (qs c).1.rep.inf.frac,ω (qs c).1.rep.inf.stamp,ω (qs c).1.rep.inf.pkts,ω (qs c).1.rep.inf.octs,δ U (qs c).1.rep.bl.length H,ι (qs c).1.msg.kind,ω (qs c).1.msg.snd,ω (qs c).1.msg.med,δ Y (qs c).1.msg.asks.length I,δ aa (qs c).1.msg.lost.length J,υ (qs c).1.oth.1,υ (qs c).1.oth.2.1,δ ab (qs c).1.oth.2.2.1.length N] 293)).al (.cells #[ι (qs c).1.kind,μ (qs c).1.rep.snd,ω (qs c).1.rep.src,ω (qs c).1.rep.inf.sec,ω (qs c).1.rep.inf.frac,ω (qs c).1.rep.inf.stamp,ω (qs c).1.rep.inf.pkts,ω (qs c).1.rep.inf.octs,δ U (qs c).1.rep.bl.length H,ι (qs c).1.msg.kind,ω (qs c).1.msg.snd,ω (qs c).1.msg.med,δ Y (qs c).1.msg.asks.length I,δ aa (qs c).1.msg.lost.length J,υ (qs c).1.oth.1,υ (qs c).1.oth.2.1,δ ab (qs c).1.oth.2.2.1.length N] 293))))) | (refine jQ rfl 293 (.tmp 10) (.tmp 30) rfl w2 _ #[ι (qs c).1.kind,μ (qs c).1.rep.snd,ω (qs c).1.rep.src,ω (qs c).1.rep.inf.sec,ω (qs c).1.rep.inf.frac,ω (qs c).1.rep.inf.stamp,ω (qs c).1.rep.inf.pkts,ω (qs c).1.rep.inf.octs,δ U (qs c).1.rep.bl.length H,ι (qs c).1.msg.kind,ω (qs c).1.msg.snd,ω (qs c).1.msg.med,δ Y (qs c).1.msg.asks.length I,δ aa (qs c).1.msg.lost.length J,υ (qs c).1.oth.1,υ (qs c).1.oth.2.1,δ ab (qs c).1.oth.2.2.1.length N] rfl rfl rfl ξ rfl (all_oneCell_toArray (by simp[Value.oneCell'])) ?_) | (refine wpList_load_row rfl 293 (.tmp 10) rfl w2.heap.size rfl _ #[ι (qs c).1.kind,μ (qs c).1.rep.snd,ω (qs c).1.rep.src,ω (qs c).1.rep.inf.sec,ω (qs c).1.rep.inf.frac,ω (qs c).1.rep.inf.stamp,ω (qs c).1.rep.inf.pkts,ω (qs c).1.rep.inf.octs,δ U (qs c).1.rep.bl.length H,ι (qs c).1.msg.kind,ω (qs c).1.msg.snd,ω (qs c).1.msg.med,δ Y (qs c).1.msg.asks.length I,δ aa (qs c).1.msg.lost.length J,υ (qs c).1.oth.1,υ (qs c).1.oth.2.1,δ ab (qs c).1.oth.2.2.1.length N] _ _ (heap_alloc_new w2 _) underlying293 rfl ξ ?_) | (at_builtin;refine jj _ rfl (.tmp 32) (.tmp 34) 294 rfl w1.heap.size 293 bm (Γf) 17 160 underlying294 hi bg bh bi rfl ζ _ (acc.map λc=>(qs c).1) rfl ad.o.row (w2.heap.size+1) [ι (qs c).1.kind,μ (qs c).1.rep.snd,ω (qs c).1.rep.src,ω (qs c).1.rep.inf.sec,ω (qs c).1.rep.inf.frac,ω (qs c).1.rep.inf.stamp,ω (qs c).1.rep.inf.pkts,ω (qs c).1.rep.inf.octs,δ U (qs c).1.rep.bl.length H,ι (qs c).1.msg.kind,ω (qs c).1.msg.snd,ω (qs c).1.msg.med,δ Y (qs c).1.msg.asks.length I,δ aa (qs c).1.msg.lost.length J,υ (qs c).1.oth.1,υ (qs c).1.oth.2.1,δ ab (qs c).1.oth.2.2.1.length N] (qs c).1 rfl rfl (xO η) (by simp[Value.oneCell']) ((FO bc.o (CG av.o) aP.o aQ.o aR.o aS.o).on ((qa.alloc _ _).al _)) (λb h=>gI ad.o.errs h) ζ (by have:=aw.o;rw[List.length_map];omega) ad.o.more.size ?_;intro bK w8 aj aH be;have af:=κ (ad.o.put aj aH);obtain⟨bG,bF,bz,rfl,bj,bk⟩:=aj.shape;clear aj aH be bj bk) | (at_builtin;refine qK _ rfl (.tmp 36) (.tmp 38) 416 rfl w1.heap.size 29 bn (ι 0) 8 underlying416 bp bq br bs rfl _ .i64 (acc.map λc=>(qs c).2) rfl (af.o.on (qa.alloc _ _)).errs _ [(qs c).2] rfl (SlI.lit .i64 w8 [(qs c).2] 29 _ 1 _ rfl rfl rfl η) (by have:=aw.o;rw[List.length_map];simp;omega) ζ (by have:=af.o.more.size;simp;omega) ?_;intro v9 w9 ak aI aK;have ba:=κ ((af.o.on (qa.alloc _ _)).err ak aI aK);obtain⟨bH,bA,aA⟩:=xG ak;rw[show ((acc.map λc=>(qs c).2)++[(qs c).2]).length=acc.length+1 from by simp] at aA;subst aA;clear ak aI aK))
   go_roundw
   case rel=>exact⟨j+1,τ,by go_num,_,_,_,_,_,_,rfl,rfl,by rw[ac.o,List.map_append,List.map_append];exact ba.o⟩
   case measure=>simp[intOf];omega
  ·obtain rfl:j=l.length:=by omega
   rw[List.take_length] at d
   have ax:Hid ((l.map λc=>(qs c).2).length<=1000):=κ (by
    rw[List.length_map];by_cases he:0<l.length
    ·have:=(Xi ay.o 0 he).2;omega
    ·omega)
   by_cases hf:vm (l.map λc=>(qs c).2)=0
   ·have aW:=κ hf;rw[if_pos hf] at G;clear hf
    go_wp2_with (go_at_call 242;(go_call gj (l.map λc=>(qs c).2) _ _ (SlI.of_owns d.o.errs (by have:=ax.o;omega)) as e bt ⟨rfl,rfl⟩;rw[aW.o]))
    go_ret2
    exact⟨_,by rw[G.o];rfl,by rw[G.o];exact d.o.row.sl ζ,az.o.trans d.o.more⟩
   ·have bv:(vm (l.map λc=>(qs c).2) != 0)=true:=by simp[hf]
    rw[if_neg hf] at G;clear hf
    go_wp2_with (go_at_call 242;(go_call gj (l.map λc=>(qs c).2) _ _ (SlI.of_owns d.o.errs (by have:=ax.o;omega)) as e bt ⟨rfl,rfl⟩))
    go_ret2
    exact⟨_,by rw[G.o];rfl,by rw[G.o];exact SlP.nil _ _ _,az.o.trans d.o.more⟩
theorem DH (b:List Int) (v:Value) (w:World) (H:SlI .u8 w v b) (d:Byt b) (G:b.length<=1000000):
  Calls prog 188 #[v] w λe w'=> ∃vx,e= .returned (.tuple #[vx,ι (zi b).2])/\SlP 17 Qu w' vx (zi b).1/\qa w w':=by
 by_cases h0:(jG b).2=0
 ·exact Wo b v w H d G h0
 ·exact DG b v w H d G h0
end
section
open Go.RowKit Go.Lib
def gt (x:Itm):List Int:=if x.kind=2 then (if x.msg.kind=1 then [x.msg.med] else if x.msg.kind=2 then x.msg.asks.map Prod.fst else []) else []
def xH (l:List Itm):List Int:=l.flatMap gt
theorem CY {x:Itm} (h:EH x):(gt x).length<=100000:=by
 unfold gt;split
 ·split
  ·simp
  ·split
   ·rw[List.length_map];exact h.asks
   ·simp
 ·simp
theorem Wi (l m:List Itm):xH (l++m)=xH l++xH m:=by simp[xH]
theorem Wh (x:Itm):xH [x]=gt x:=by simp[xH]
theorem gc: ∀{l:List Itm},(∀x∈l,EH x)->(xH l).length<=l.length* 100000
 | [],_=>by simp[xH]
 | x::l,h=>by
  have G:=CY (h x η);have H:=gc (l:=l) λy d=>h y (by simp[d])
  show ((gt x)++xH l).length<=_;rw[List.length_append,List.length_cons];omega
structure AsJ (w wr:World) (u:Value) (A:List Int):Prop where
 row:wr.ownsRow w.heap.size 38 1 u A.length (A.map (Value.int .u32))
 more:qa w wr
theorem AsJ.on {w wr w':World} {u:Value} {A:List Int} (h:AsJ w wr u A) (m:qa wr w'):AsJ w w' u A:=⟨jy h.row m,h.more.trans m⟩
theorem AsJ.put {w wr w':World} {u d:Value} {A A':List Int} (h:AsJ w wr u A) (H:w'.ownsRow w.heap.size 38 1 d A'.length (A'.map (Value.int .u32))) (g:wr.grownBy w' u.ownBlock):AsJ w w' d A':=
 ⟨H,Below.grown h.more g h.more.size (λk G=>jD h.row G)⟩
theorem WA (l:List Itm) (v:Value) (w:World) (aG:SlP 17 Qu w v l) (bm:l.length<=1000) (az: ∀x∈l,EH x):
  Calls prog 189 #[v] w λe w'=> ∃vx,e= .returned vx/\(SlI .u32 w' vx (xH l)/\ ∀q,vx.ownBlock=some q->w.heap.size<=q)/\qa w w':=by
 obtain⟨aF,hi,aC,aD,aE⟩:=info_parts (P:=prog) (e:=38) (z:= ω 0) (size:=1) (bytes:=4) ξ;obtain⟨bo,cap,rfl,bn,ax,aT⟩:=MU aG;have aI:=κ ax;have ao:=κ az;have aO:Hid (AsJ w w (δ none 0 0) []):=κ ⟨World.ownsRow_nil _ _ _ _,qa.refl _⟩;clear aG ax aT az
 go_enter func189,ntmps189
 go_wp2
 go_loopw [3,10] (λu I wr=> ∃j:Nat,j<=l.length/\I= ι j/\AsJ w wr u (xH (l.take j))) (λ_ I _=>l.length-(intOf I).toNat)
 case atStart=>exact⟨0,τ,rfl,aO.o⟩
 case round=>
  obtain⟨j,bk,rfl,O⟩:=hrel;have d:=κ O;clear O;by_cases hlt:j<l.length
  ·obtain⟨b,aW,aj,ae,al,af,am,ag,an,ah,rfl,av,aB,aA⟩:=aI.o j hlt;have aL:=κ (Y9 aB d.o.more av);have ay:l.getD j wN∈l:=by rw[List.getD_eq_getElem?_getD,List.getElem?_eq_getElem hlt];exact List.getElem_mem hlt
   have aK:=κ (ao.o _ ay);have aN:=κ aA.ms.asks;have bl:(j:Int)<(l.length:Int):=by omega
   have bh:b<wr.heap.size:=Nat.lt_of_lt_of_le av d.o.more.size;have ab:Hid (xH (l.take (j+1))=xH (l.take j)++gt (l.getD j wN)):=κ (by rw[kC l j wN hlt,Wi,Wh])
   have aa:Hid ((xH (l.take j)).length<=100000000):=κ (by
    have:=gc (l:=l.take j) λx aV=>ao.o x (List.mem_of_mem_take aV)
    rw[List.length_take] at this
    omega)
   clear aB aA ay;generalize xH (l.take j)=acc at *;generalize l.getD j wN=x at *
   go_upto_region 5 with (first | (refine wpList_load_mid rfl 293 (.tmp 12) rfl b (aW+j* 17) rfl (Γo x aj ae al af am ag an ah) _ aL.o underlying293 rfl ξ ?_) | (refine jQ rfl 293 (.tmp 5) (.tmp 13) rfl wr _ (Γo x aj ae al af am ag an ah) rfl rfl rfl ξ rfl rfl ?_))
   obtain⟨ad,ai⟩:=ν (wr.alloc (.cells (Γo x aj ae al af am ag an ah) 293));have ac:Hid (qa wr ad):=κ (by rw[<-ai];exact qa.alloc _ _);have H:Hid (ad.heap[wr.heap.size]? =some (.cells (Γo x aj ae al af am ag an ah) 293 (0,0))):=κ (by rw[<-ai];exact qk _ _);rw[ai];clear ai;have aS:wr.heap.size<ad.heap.size:=ql H.o;have t0:=β0 H.o;have t9:=β9 H.o;have aX:=β11 H.o;have aY:=β12 H.o;have aZ:=β13 H.o;by_cases hk:x.kind=2
   ·have aR:(x.kind != 2)=false:=by simp[hk]
    by_cases h1:x.msg.kind=1
    ·have aP:(x.msg.kind==1)=true:=by simp[h1]
     have G:Hid (gt x=[x.msg.med]):=κ (by unfold gt;rw[if_pos hk,if_pos h1]);clear hk h1;have N:=κ (d.o.on ac.o)
     go_wp2_with (at_builtin;refine qK _ rfl (.tmp 22) (.tmp 26) 61 rfl w.heap.size 38 aF (ω 0) 4 underlying61 hi aC aD aE rfl _ .u32 acc rfl (N.o.on (qa.alloc _ _)).row _ [x.msg.med] rfl (SlI.lit .u32 ad [x.msg.med] 38 _ 1 _ rfl rfl rfl η) (by have:=aa.o;simp;omega) ζ (by have:=N.o.more.size;simp;omega) ?_;intro v9 w9 Y U aq;have ap:=κ ((N.o.on (qa.alloc _ _)).put Y U);clear Y U aq)
     go_roundw
     case measure=>simp[intOf];omega
     case rel=>exact⟨j+1,τ,by go_num,by rw[ab.o,G.o];exact ap.o⟩
    ·have aP:(x.msg.kind==1)=false:=by simp[h1]
     by_cases h2:x.msg.kind=2
     ·have aQ:(x.msg.kind==2)=true:=by simp[h2]
      have G:Hid (gt x=x.msg.asks.map Prod.fst):=κ (by unfold gt;rw[if_pos hk,if_neg h1,if_pos h2]);clear hk h1 h2;have N:=κ (d.o.on ac.o);go_wp2;have bc:=κ d.o.more;obtain⟨aH,rfl⟩: ∃aH:World,aH=wr:=⟨_,rfl⟩;have ar:=κ aK.o.asks;generalize x.msg.asks=ak at *;have bf:ak.length<=100000:=ar.o;clear t0 t9 aX aY aZ H aS
      go_loopw [3,34] (λu I wr=> ∃i:Nat,i<=ak.length/\I= ι i/\AsJ w wr u (acc++(ak.take i).map Prod.fst)) (λ_ I _=>ak.length-(intOf I).toNat)
      case atStart=>exact⟨0,τ,rfl,by simpa using N.o⟩
      case round=>
       obtain⟨i,bi,rfl,O⟩:=hrel;have J:=κ O;clear O;by_cases hlt3:i<ak.length
       ·obtain⟨bd,bp,rfl,bg,aw,ba,bb⟩:=Dy aN.o i hlt3;obtain⟨be,c1⟩:=aw _ J.o.more;have bj:(i:Int)<(ak.length:Int):=by omega
        have aM:Hid (acc++(ak.take (i+1)).map Prod.fst=(acc++(ak.take i).map Prod.fst)++[(ak.getD i (0,0)).1]):=κ (by rw[kC ak i (0,0) hlt3,List.map_append,List.append_assoc];rfl);have aJ:Hid ((acc++(ak.take i).map Prod.fst).length<=100100000):=κ (by have:=aa.o;have:=ar.o;rw[List.length_append,List.length_map,List.length_take];omega);clear aw ba bb;generalize acc++(ak.take i).map Prod.fst=acc3 at *;generalize (ak.getD i (0,0)).1=y1 at *;generalize (ak.getD i (0,0)).2=y2 at *;have au:=κ (J.o.on (qa.alloc wr (.cells #[ω y1,υ y2] 421)))
        go_wp2_with (at_builtin;refine qK _ rfl (.tmp 38) (.tmp 41) 61 rfl w.heap.size 38 aF (ω 0) 4 underlying61 hi aC aD aE rfl _ .u32 acc3 rfl (au.o.on (qa.alloc _ _)).row _ [y1] rfl (SlI.lit .u32 (wr.alloc (.cells #[ω y1,υ y2] 421)) [y1] 38 _ 1 _ rfl rfl η η) (by have:=aJ.o;rw[List.length_singleton];omega) ζ (by have:=J.o.more.size;simp;omega) ?_;intro v9 w9 Y U aq;have ap:=κ ((au.o.on (qa.alloc _ _)).put Y U);clear Y U aq)
        go_roundw
        case measure=>simp[intOf];omega
        case rel=>exact⟨i+1,τ,by go_num,by rw[aM.o];exact ap.o⟩
       ·obtain rfl:i=ak.length:=by omega
        rw[List.take_length] at J;go_wp2;go_roundw
        case measure=>simp[intOf];omega
        case rel=>exact⟨j+1,τ,by go_num,by rw[ab.o,G.o];exact J.o⟩
     ·have aQ:(x.msg.kind==2)=false:=by simp[h2]
      have G:Hid (gt x=[]):=κ (by unfold gt;rw[if_pos hk,if_neg h1,if_neg h2]);clear hk h1 h2;go_wp2;go_roundw
      case measure=>simp[intOf];omega
      case rel=>exact⟨j+1,τ,by go_num,by rw[ab.o,G.o,List.append_nil];exact d.o.on ac.o⟩
   ·have aR:(x.kind != 2)=true:=by simp[hk]
    have G:Hid (gt x=[]):=κ (by unfold gt;rw[if_neg hk]);clear hk;go_wp2;go_roundw
    case measure=>simp[intOf];omega
    case rel=>exact⟨j+1,τ,by go_num,by rw[ab.o,G.o,List.append_nil];exact d.o.on ac.o⟩
  ·obtain rfl:j=l.length:=by omega
   rw[List.take_length] at d;have aa:Hid ((xH l).length<=100000000):=κ (by have:=gc (l:=l) ao.o;omega);go_wp2;go_ret;exact⟨_,rfl,⟨SlI.of_owns d.o.row (by have:=aa.o;omega),λq aU=>jD d.o.row aU⟩,d.o.more⟩
end
structure Ds where
 lo:Bool
 st:Bool
 pt:Int
 pic:Int
 wd:Bool
 bs:Int
 tr:Int
 sy:Bool
 ky:Int
def ds0:Ds:=⟨false,false,0,0,false,0,0,false,0⟩
def b1 (b:Bool) (n:Int):Int:=if b then n else 0
def nB (s:RdS):Int:=num (tkB s.1 1)
def bit (n k:Int):Bool:=decide (n/k%2=1)
def za (s:RdS):Int×Int×RdS:=if bit (nB s) 128 then (nB s,nB (tkS s 1),tkS (tkS s 1) 1) else (nB s,0,tkS s 1)
def go (t:Int) (s:RdS):(Int×Bool)×RdS:=if bit t 128 then (if nB s<128 then ((nB s,false),tkS s 1) else (((nB s-128)* 256+nB (tkS s 1),true),tkS (tkS s 1) 1)) else ((-1,false),s)
def Jt (t:Int) (s:RdS):Int×RdS:=if bit t 64 then (nB s,tkS s 1) else (-1,s)
def QW (t:Int) (s:RdS):Int×RdS:=if bit t 32||bit t 16 then (nB s,tkS s 1) else (0,s)
def mkD (f t:Int) (p:Int×Bool) (b q:Int):Ds:=⟨bit f 32,bit f 16,f%8,p.1,p.2,b,if bit t 32 then q/64 else -1,bit t 32&&bit q 32,if bit t 16 then q%32 else -1⟩
def Zw (f t:Int) (s:RdS):Ds×RdS:=
 (mkD f t (go t s).1 (Jt t (go t s).2).1 (QW t (Jt t (go t s).2).2).1,(QW t (Jt t (go t s).2).2).2)
def DT (n:Int) (x:Ds×RdS):Ds×Int×Int:=if x.2.2=3 then (ds0,0,3) else (x.1,n-x.2.1.length,0)
def qW (b:List Int):Ds×Int×Int:=DT b.length (Zw (za (b,0)).1 (za (b,0)).2.1 (za (b,0)).2.2)
def zJ (b:List Int):Bool:=
 decide ((qW b).2.2=0)&&(qW b).1.st&&decide ((qW b).1.pt=0)&&decide ((qW b).2.1<b.length)&&decide (b.getD (qW b).2.1.toNat 0%2=0)
theorem Pj (f t:Int) (s:RdS):(Zw f t s).2.1.length<=s.1.length:=by
 have d: ∀s:RdS,(tkS s 1).1.length<=s.1.length:=λs=>by unfold tkS tkL;rw[List.length_drop];omega
 unfold Zw;have H:(go t s).2.1.length<=s.1.length:=by
  unfold go;split
  ·split
   ·exact d _
   ·exact Nat.le_trans (d _) (d _)
  ·exact Nat.le_refl _
 have G: ∀s,(Jt t s).2.1.length<=s.1.length:=λs=>by
  unfold Jt;split
  ·exact d _
  ·exact Nat.le_refl _
 have I: ∀s,(QW t s).2.1.length<=s.1.length:=λs=>by
  unfold QW;split
  ·exact d _
  ·exact Nat.le_refl _
 exact Nat.le_trans (I _) (Nat.le_trans (G _) H)
theorem orB: ∀m:Fin 256,((m.val:Int)/128%2=0->bits .or .u8 (m.val:Int) 128=(m.val:Int)+128)/\((m.val:Int)/64%2=0->bits .or .u8 (m.val:Int) 64=(m.val:Int)+64)/\((m.val:Int)/32%2=0->bits .or .u8 (m.val:Int) 32=(m.val:Int)+32)/\((m.val:Int)/16%2=0->bits .or .u8 (m.val:Int) 16=(m.val:Int)+16):=of_decide_eq_true ξ
theorem OD {x:Int} (h:0<=x/\x<=255):(x/128%2=0->bits .or .u8 x 128=x+128)/\(x/64%2=0->bits .or .u8 x 64=x+64)/\(x/32%2=0->bits .or .u8 x 32=x+32)/\(x/16%2=0->bits .or .u8 x 16=x+16):=by
 obtain⟨m,rfl⟩:=Int.eq_ofNat_of_zero_le h.1;exact orB ⟨m,τ⟩
theorem On: ∀m:Fin 256,(bits .and .u8 (m.val:Int) 128=if bit (m.val:Int) 128 then 128 else 0)/\(bits .and .u8 (m.val:Int) 64=if bit (m.val:Int) 64 then 64 else 0)/\(bits .and .u8 (m.val:Int) 32=if bit (m.val:Int) 32 then 32 else 0)/\(bits .and .u8 (m.val:Int) 16=if bit (m.val:Int) 16 then 16 else 0)/\bits .and .u8 (m.val:Int) 7=(m.val:Int)%8/\((bits .and .u8 (m.val:Int) 48 != 0)=(bit (m.val:Int) 32||bit (m.val:Int) 16)):=of_decide_eq_true ξ
theorem ZA {x:Int} (h:0<=x/\x<=255):(bits .and .u8 x 128=if bit x 128 then 128 else 0)/\(bits .and .u8 x 64=if bit x 64 then 64 else 0)/\(bits .and .u8 x 32=if bit x 32 then 32 else 0)/\(bits .and .u8 x 16=if bit x 16 then 16 else 0)/\bits .and .u8 x 7=x%8/\((bits .and .u8 x 48 != 0)=(bit x 32||bit x 16)):=by
 obtain⟨m,rfl⟩:=Int.eq_ofNat_of_zero_le h.1;exact On ⟨m,τ⟩
theorem Ni: ∀m:Fin 256,((bits .and .u8 (m.val:Int) 128 != 0)=bit (m.val:Int) 128)/\((bits .and .u8 (m.val:Int) 64 != 0)=bit (m.val:Int) 64)/\((bits .and .u8 (m.val:Int) 32 != 0)=bit (m.val:Int) 32)/\((bits .and .u8 (m.val:Int) 16 != 0)=bit (m.val:Int) 16):=of_decide_eq_true ξ
theorem Xd {x:Int} (h:0<=x/\x<=255):((bits .and .u8 x 128 != 0)=bit x 128)/\((bits .and .u8 x 64 != 0)=bit x 64)/\((bits .and .u8 x 32 != 0)=bit x 32)/\((bits .and .u8 x 16 != 0)=bit x 16):=by
 obtain⟨m,rfl⟩:=Int.eq_ofNat_of_zero_le h.1;exact Ni ⟨m,τ⟩
structure PrS (w0 w:World) (R hi Br B5 B7 B8:Nat) (s:RdS) (t:Int) (cs:Array Value):Prop where
 rd:qr w R s.1 s.2 (λg=>g<hi)
 more:qa w0 w
 br:w.heap[Br]? =some (.cells #[.bool false,.bool false,.int .u8 0,.int .i64 0,.bool false,.int .i64 0,.int .i64 0,.bool false,.int .i64 0] 366 (0,0))
 b5:w.heap[B5]? =some (.cells #[.pointer (some ⟨R,0,none⟩)] 156 (0,0))
 b7:w.heap[B7]? =some (.cells #[.int .u8 t] 5 (0,0))
 b8:w.heap[B8]? =some (.cells cs 366 (0,0))
 n0:w0.heap.size<=Br
 nR:Br<R
 n1:R<hi
 n5:hi<=B5
 n7:B5<B7
 n8:B7<B8
theorem PrS.step {I w w':World} {R hi Br d G H:Nat} {s s':RdS} {t:Int} {cs:Array Value} (h:PrS I w R hi Br d G H s t cs) (r:qr w' R s'.1 s'.2 (λg=>g<hi)) (a:qg (λb=>b=R) w w'):PrS I w' R hi Br d G H s' t cs:=by
 have:=h.n0;have:=h.nR;have:=h.n1;have:=h.n5;have:=h.n7;have:=h.n8;exact⟨r,qg.to_more h.more a (λk J=>by omega),a.blk h.br τ,a.blk h.b5 τ,a.blk h.b7 τ,a.blk h.b8 τ,h.n0,h.nR,h.n1,h.n5,h.n7,h.n8⟩
theorem PrS.on {I w w':World} {R hi Br d G H:Nat} {s:RdS} {t:Int} {cs:Array Value} (h:PrS I w R hi Br d G H s t cs) (m:qa w w'):PrS I w' R hi Br d G H s t cs:=
 ⟨h.rd.more m,h.more.trans m,qc m h.br,qc m h.b5,qc m h.b7,qc m h.b8,h.n0,h.nR,h.n1,h.n5,h.n7,h.n8⟩
theorem PrS.put8 {I w:World} {R hi Br G H d:Nat} {s:RdS} {t:Int} {cs:Array Value} (h:PrS I w R hi Br G H d s t cs) (i:Nat) (v:Value):PrS I (w.setCell ⟨d,i,none⟩ v) R hi Br G H d s t (cs.setIfInBounds i v):=by
 have:=h.n0;have:=h.nR;have:=h.n1;have:=h.n5;have:=h.n7;have:=h.n8;have a:qg (λb=>b=d) w (w.setCell ⟨d,i,none⟩ v):=(qg.refl (λb=>b=d) w).set (p:=⟨d,i,none⟩) rfl _;exact⟨h.rd.off a τ (λg J e=>by omega),h.more.st (p:=⟨d,i,none⟩) (by show _<=d;omega) _,a.blk h.br τ,a.blk h.b5 τ,a.blk h.b7 τ,qo h.b8 i v,h.n0,h.nR,h.n1,h.n5,h.n7,h.n8⟩
theorem Zx {s:RdS} (h:Byt s.1):0<=nB s/\nB s<=255:=by
 have:=zv (tkB s.1 1) 1 (jI h 1) (zf s.1 1 ζ) ζ;unfold nB;omega
def dC (f pic:Int) (wd:Bool) (bs tr:Int) (sy:Bool) (ky:Int):Array Value:= #[.bool (bit f 32),.bool (bit f 16),.int .u8 (f%8),.int .i64 pic,.bool wd,.int .i64 bs,.int .i64 tr,.bool sy,.int .i64 ky]
def PrQ (w0 w':World) (R hi Br B5 B7 B8 B10:Nat) (s:RdS) (t:Int) (cs:Array Value) (q:Int):Prop:=PrS w0 w' R hi Br B5 B7 B8 s t cs/\w'.heap[B10]? =some (.cells #[.int .u64 q] 231 (0,0))
def Ew (s:RdS):Int:=if nB s<128 then nB s else (nB s-128)* 256+nB (tkS s 1)
def Ex (s:RdS):RdS:=if nB s<128 then tkS s 1 else tkS (tkS s 1) 1
def Ev (s:RdS):Bool:=decide (¬nB s<128)
theorem Hh {ae w:World} {R hi Br J O N:Nat} {s:RdS} {t f:Int} (h:PrS ae w R hi Br J O N s t (dC f 0 false 0 0 false 0)):
  Calls prog 251 #[γ J,γ N] w λe w'=>e= .returned (ι (Ew s))/\PrS ae w' R hi Br J O N (Ex s) t (dC f 0 (Ev s) 0 0 false 0):=by
 unfold Ew Ex Ev;have al:=Zx h.rd.byt;have ac:Byt (tkS s 1).1:=h.rd.byt.drop _;have am:=Zx ac;have c5:=β0 h.b5;have H:=κ h;have aa:num (tkB s.1 1)=nB s:=rfl;have ab:num (tkB (tkS s 1).1 1)=nB (tkS s 1):=rfl;have U:=κ aa;have af:=κ ab;clear h aa ab ac;by_cases hn:nB s<128
 ·rw[if_pos hn,if_pos hn,decide_eq_false τ];generalize ah:nB s=q at *;clear ah
  go_enter func251,ntmps251
  go_wp2_with (go_at_call 52;((with_reducible refine(jP H.o.rd).mono ?_);rintro e w1 ⟨rfl,G,d⟩;rw[U.o];have I:=κ (H.o.step (s':=tkS s 1) G d);clear G d))
  go_ret;exact⟨rfl,I.o⟩
 ·rw[if_neg hn,if_neg hn,decide_eq_true τ];generalize nB s=q at *;generalize ai:nB (tkS s 1)=q2 at *;clear ai
  go_enter func251,ntmps251
  go_wp2_with first | (go_at_call 52;((with_reducible refine(jP H.o.rd).mono ?_);rintro e w1 ⟨rfl,G,d⟩;rw[U.o];have I:=κ ((H.o.step (s':=tkS s 1) G d).put8 4 (μ true));have aj:=qb (H.o.step (s':=tkS s 1) G d).b8 4 (v:= μ false) rfl;have an:=qd (H.o.step (s':=tkS s 1) G d).b8 4;have ak:=β0 I.o.b5;clear G d)) | (go_at_call 52;((with_reducible refine(jP I.o.rd).mono ?_);rintro e w2 ⟨rfl,ad,Y⟩;rw[af.o];have ag:=κ (I.o.step (s':=tkS (tkS s 1) 1) ad Y);clear ad Y))
  go_ret;exact⟨rfl,ag.o⟩
theorem Hw {U w:World} {R hi Br d G H:Nat} {s:RdS} {t:Int} {cs:Array Value} (h:PrS U w R hi Br d G H s t cs):
  Calls prog 252 #[γ d] w λe w'=>e= .returned (ι (nB s))/\PrS U w' R hi Br d G H (tkS s 1) t cs:=by
 have ab:=Zx h.rd.byt;have c5:=β0 h.b5;have I:=κ h;have N:num (tkB s.1 1)=nB s:=rfl;have Y:=κ N;clear h N;generalize nB s=q at *
 go_enter func252,ntmps252
 go_wp2_with (go_at_call 52;((with_reducible refine(jP I.o.rd).mono ?_);rintro e w1 ⟨rfl,O,J⟩;rw[Y.o];have aa:=κ (I.o.step (s':=tkS s 1) O J);clear O J))
 go_ret;exact⟨rfl,aa.o⟩
theorem Ie {q:Int} (h:0<=q/\q<=255):fld q 5 1=q/32%2/\fld q 6 2=q/64/\fld q 0 5=q%32:=by
 have t0:two 0=1:=by decide
 have t1:two 1=2:=by decide
 have t2:two 2=4:=by decide
 have t5:two 5=32:=by decide
 have d:two 6=64:=by decide
 unfold fld;refine⟨?_, ?_, ?_⟩
 ·rw[if_pos (show May 5 1 by unfold May;decide),t5,t1]
 ·rw[if_pos (show May 6 2 by unfold May;decide),d,t2];omega
 ·rw[if_pos (show May 0 5 by unfold May;decide),t0,t5];omega
theorem Ee {ah w:World} {R hi Br N O d G:Nat} {s:RdS} {t q:Int} {f ag Y:Int} {ai:Bool} (h:PrQ ah w R hi Br N O d G s t (dC f ag ai Y 0 false 0) q) (ad:0<=q/\q<=255) (aw:d<G):
  Calls prog 253 #[γ G,γ d] w λe w'=>e= .returned (ι (q/64))/\PrQ ah w' R hi Br N O d G s t (dC f ag ai Y 0 (bit q 32) 0) q:=by
 obtain⟨h,J⟩:=h;obtain⟨aa,ab,aq⟩:=Ie ad;have ae:U64 q:=by unfold U64;omega
 have ac:(q/32%2==1)=bit q 32:=by unfold bit;rw[Bool.eq_iff_iff];simp
 have aj:=κ aa;have ak:=κ ab;have ap:=κ ac;have ar:=β0 J;have I:=κ h;have an:=κ J;obtain⟨ay,az⟩:=ad;have aA:q/64<=3:=by omega
 have aB:0<=q/64:=by omega
 clear h J aa ab aq ac;generalize q/64=q6 at *
 go_enter func253,ntmps253
 go_wp2_with first | (go_at_call 254;((with_reducible refine(QT q 5 1 ae (by unfold May;decide) _).mono ?_);rintro e w1 ⟨rfl,H,rfl⟩;rw[aj.o];have am:=κ ((I.o.on (qa.drewN _ H)).put8 7 (μ (bit q 32)));have U:=κ (qm (qn an.o H) ⟨d,7,none⟩ (μ (bit q 32)) (by show G≠d;omega));have au:=qb (I.o.on (qa.drewN w H)).b8 7 (v:= μ false) rfl;have aC:=qd (I.o.on (qa.drewN w H)).b8 7;have ax:=ap.o;have av:=β0 U.o)) | (go_at_call 254;((with_reducible refine(QT q 6 2 ae (by unfold May;decide) _).mono ?_);rintro e w2 ⟨rfl,af,rfl⟩;rw[ak.o];have ao:=κ (am.o.on (qa.drewN _ af));have al:=κ (qn U.o af)))
 go_ret;exact⟨rfl,ao.o,al.o⟩
theorem Hs {U w:World} {R hi Br H I J d:Nat} {s:RdS} {t q:Int} {cs:Array Value} (h:PrQ U w R hi Br H I J d s t cs q) (ag:0<=q/\q<=255):
  Calls prog 255 #[γ d] w λe w'=>e= .returned (ι (q%32))/\PrQ U w' R hi Br H I J d s t cs q:=by
 obtain⟨h,G⟩:=h;obtain⟨ae,af,N⟩:=Ie ag;have ah:U64 q:=by unfold U64;omega
 have Y:=κ N;have ai:=β0 G;have ab:=κ h;have ad:=κ G;have aj:q%32<=31:=by omega
 have ak:0<=q%32:=by omega
 clear h G ae af N;generalize q%32=q5 at *
 go_enter func255,ntmps255
 go_wp2_with (go_at_call 254;((with_reducible refine(QT q 0 5 ah (by unfold May;decide) _).mono ?_);rintro e w1 ⟨rfl,O,rfl⟩;rw[Y.o];have ac:=κ (ab.o.on (qa.drewN _ O));have aa:=κ (qn ad.o O)))
 go_ret;exact⟨rfl,ac.o,aa.o⟩
theorem LP {O w:World} {R hi Br d G H:Nat} {s:RdS} {t f:Int} (h:PrS O w R hi Br d G H s t (dC f 0 false 0 0 false 0)) (Y:0<=t/\t<=255):
  Calls prog 250 #[υ 128,.func (.func 251) #[] #[γ d,γ H],γ G] w λe w'=>e= .returned (ι (go t s).1.1)/\PrS O w' R hi Br d G H (go t s).2 t (dC f 0 (go t s).1.2 0 0 false 0):=by
 have aa:=β0 h.b7;have I:=κ h;have N:=(ZA Y).1;clear h;cases hb:bit t 128 with
 | false=>
  rw[hb,if_neg η] at N;have e:go t s=((-1,false),s):=by unfold go;rw[hb,if_neg η]
  rw[e];clear e hb
  go_enter func250,ntmps250
  go_wp2;go_ret;exact⟨rfl,I.o⟩
 | true=>
  rw[hb,if_pos rfl] at N;have e:go t s=((Ew s,Ev s),Ex s):=by unfold go Ew Ex Ev;rw[hb,if_pos rfl];by_cases hn:nB s<128<;>simp[hn]
  have E:=κ e;clear e hb
  go_enter func250,ntmps250
  go_wp2_with (go_at_call 251;((with_reducible refine(Hh I.o).mono ?_);rintro e w1 ⟨rfl,J⟩;have U:=κ J;clear J))
  go_ret;rw[E.o];exact⟨rfl,U.o⟩
theorem LQ {O w:World} {R hi Br d G H:Nat} {s:RdS} {t:Int} {cs:Array Value} (h:PrS O w R hi Br d G H s t cs) (Y:0<=t/\t<=255):
  Calls prog 250 #[υ 64,.func (.func 252) #[] #[γ d],γ G] w λe w'=>e= .returned (ι (Jt t s).1)/\PrS O w' R hi Br d G H (Jt t s).2 t cs:=by
 have aa:=β0 h.b7;have I:=κ h;have N:=(ZA Y).2.1;clear h;cases hb:bit t 64 with
 | false=>
  rw[hb,if_neg η] at N;have e:Jt t s=(-1,s):=by unfold Jt;rw[hb,if_neg η]
  rw[e];clear e hb
  go_enter func250,ntmps250
  go_wp2;go_ret;exact⟨rfl,I.o⟩
 | true=>
  rw[hb,if_pos rfl] at N;have e:Jt t s=(nB s,tkS s 1):=by unfold Jt;rw[hb,if_pos rfl]
  have E:=κ e;clear e hb
  go_enter func250,ntmps250
  go_wp2_with (go_at_call 252;((with_reducible refine(Hw I.o).mono ?_);rintro e w1 ⟨rfl,J⟩;have U:=κ J;clear J))
  go_ret;rw[E.o];exact⟨rfl,U.o⟩
theorem Gy {ab w:World} {R hi Br I H G d:Nat} {s:RdS} {t q:Int} {f aa N:Int} {ac:Bool} (h:PrQ ab w R hi Br I H G d s t (dC f aa ac N 0 false 0) q) (ag:0<=t/\t<=255) (Y:0<=q/\q<=255) (af:G<d):
  Calls prog 250 #[υ 32,.func (.func 253) #[] #[γ d,γ G],γ H] w λe w'=>e= .returned (ι (if bit t 32 then q/64 else -1))/\PrQ ab w' R hi Br I H G d s t (dC f aa ac N 0 (bit t 32&&bit q 32) 0) q:=by
 have ah:=β0 h.1.b7;have J:=κ h;have U:=(ZA ag).2.2.1;have ae:=κ Y;clear h Y;cases hb:bit t 32 with
 | false=>
  rw[hb,if_neg η] at U;rw[if_neg η,Bool.false_and];clear hb
  go_enter func250,ntmps250
  go_wp2;go_ret;exact⟨rfl,J.o⟩
 | true=>
  rw[hb,if_pos rfl] at U;rw[if_pos rfl,Bool.true_and];clear hb
  go_enter func250,ntmps250
  go_wp2_with (go_at_call 253;((with_reducible refine(Ee J.o ae.o af).mono ?_);rintro e w1 ⟨rfl,O⟩;have ad:=κ O;clear O))
  go_ret;exact⟨rfl,ad.o⟩
theorem AO {Y w:World} {R hi Br H G I d:Nat} {s:RdS} {t q:Int} {cs:Array Value} (h:PrQ Y w R hi Br H G I d s t cs q) (ac:0<=t/\t<=255) (U:0<=q/\q<=255):
  Calls prog 250 #[υ 16,.func (.func 255) #[] #[γ d],γ G] w λe w'=>e= .returned (ι (if bit t 16 then q%32 else -1))/\PrQ Y w' R hi Br H G I d s t cs q:=by
 have ad:=β0 h.1.b7;have J:=κ h;have O:=(ZA ac).2.2.2.1;have ab:=κ U;clear h U;cases hb:bit t 16 with
 | false=>
  rw[hb,if_neg η] at O;rw[if_neg η];clear hb
  go_enter func250,ntmps250
  go_wp2;go_ret;exact⟨rfl,J.o⟩
 | true=>
  rw[hb,if_pos rfl] at O;rw[if_pos rfl];clear hb
  go_enter func250,ntmps250
  go_wp2_with (go_at_call 255;((with_reducible refine(Hs J.o ab.o).mono ?_);rintro e w1 ⟨rfl,N⟩;have aa:=κ N;clear N))
  go_ret;exact⟨rfl,aa.o⟩
end Go.Proofs.YtlmllmonabafjaaGreatDoor
