/- Contracts and plain laws. -/
import Derived.Test.YtlmllmonabafjaaGreatDoorMg7
namespace Go.Proofs.YtlmllmonabafjaaGreatDoor
open Go.Value renaming bool->μ,slice->δ,pointer->π,agg->θ
open Go.IntKind renaming i64->ι,u8->υ,u16->φ,u32->ω,i32->χ,u64->ψ
open _root_.Go.Proofs.Tryz
set_option linter.unusedSimpArgs false
set_option maxHeartbeats 8000000
set_option linter.unusedVariables false
open Go.RowKit
set_option maxRecDepth 100000
theorem PrS.begin {w w2:World} {b:List Int} {R:Nat} {Z:Array Value} (J:Z= #[μ false,false,υ 0,ι 0,false,ι 0,ι 0,false,ι 0]) (H:(w.alloc (.cells Z 366)).heap.size<=R)
  (r:qr w2 R b 0 (λg=>(w.alloc (.cells Z 366)).heap.size<=g/\g<w2.heap.size)) (m:qa (w.alloc (.cells Z 366)) w2):
  qr w2 R b 0 (λg=>g<w2.heap.size)/\qa w w2/\w2.heap[w.heap.size]? =some (.cells Z 366 (0,0))/\w.heap.size<R/\R<w2.heap.size:=by
 have G:R<w2.heap.size:=by obtain⟨v,d,_⟩:=r.blk;exact ql d
 have I:(w.alloc (.cells Z 366)).heap.size=w.heap.size+1:=by simp
 exact⟨r.mono λg h=>h.2,(qa.alloc _ _).trans m,qc m (qk w _),τ,G⟩
structure PrP (w0 w:World) (R hi Br B5 B7:Nat) (s:RdS) (t:Int):Prop where
 rd:qr w R s.1 s.2 (λg=>g<hi)
 more:qa w0 w
 br:w.heap[Br]? =some (.cells #[.bool false,.bool false,.int .u8 0,.int .i64 0,.bool false,.int .i64 0,.int .i64 0,.bool false,.int .i64 0] 366 (0,0))
 b5:w.heap[B5]? =some (.cells #[.pointer (some ⟨R,0,none⟩)] 156 (0,0))
 b7:w.heap[B7]? =some (.cells #[.int .u8 t] 5 (0,0))
 n0:w0.heap.size<=Br
 nR:Br<R
 n1:R<hi
 n5:hi<=B5
 n7:B5<B7
theorem PrP.step {H w w':World} {R hi Br d G:Nat} {s s':RdS} {t:Int} (h:PrP H w R hi Br d G s t) (r:qr w' R s'.1 s'.2 (λg=>g<hi)) (a:qg (λb=>b=R) w w'):PrP H w' R hi Br d G s' t:=by
 have:=h.n0;have:=h.nR;have:=h.n1;have:=h.n5;have:=h.n7;exact⟨r,qg.to_more h.more a (λk I=>by omega),a.blk h.br τ,a.blk h.b5 τ,a.blk h.b7 τ,h.n0,h.nR,h.n1,h.n5,h.n7⟩
theorem PrP.put7 {H w:World} {R hi Br G d:Nat} {s:RdS} {t:Int} (h:PrP H w R hi Br G d s t) (t':Int):PrP H (w.setCell ⟨d,0,none⟩ (υ t')) R hi Br G d s t':=by
 have:=h.n0;have:=h.nR;have:=h.n1;have:=h.n5;have:=h.n7;have a:qg (λb=>b=d) w (w.setCell ⟨d,0,none⟩ (υ t')):=(qg.refl (λb=>b=d) w).set (p:=⟨d,0,none⟩) rfl _;exact⟨h.rd.off a τ (λg I e=>by omega),h.more.st (p:=⟨d,0,none⟩) (by show _<=d;omega) _,a.blk h.br τ,a.blk h.b5 τ,qA (qo h.b7 0 _) rfl,h.n0,h.nR,h.n1,h.n5,h.n7⟩
theorem PrP.box {H w:World} {R hi Br d G:Nat} {s:RdS} {t:Int} (h:PrP H w R hi Br d G s t) (cs:Array Value):PrS H (w.alloc (.cells cs 366)) R hi Br d G w.heap.size s t cs:=
 ⟨h.rd.more (qa.alloc _ _),h.more.al _,qq h.br _,qq h.b5 _,qq h.b7 _,qk w _,h.n0,h.nR,h.n1,h.n5,h.n7,ql h.b7⟩
theorem PrP.make {w w2 d:World} {b:List Int} {R Br:Nat} (O:qr w2 R b 0 (λg=>g<w2.heap.size)) (m:qa w w2) (H:w2.heap[Br]? =some (.cells #[μ false,false,υ 0,ι 0,false,ι 0,ι 0,false,ι 0] 366 (0,0))) (I:w.heap.size<=Br) (J:Br<R) (n2:R<w2.heap.size)
  {s':RdS} (r:qr d R s'.1 s'.2 (λg=>g<w2.heap.size)) (a:qg (λb=>b=R) (w2.alloc (.cells #[γ R] 156)) d):
  PrP w (d.alloc (.cells #[υ 0] 5)) R w2.heap.size Br w2.heap.size d.heap.size s' 0:=by
 have G:d.heap[w2.heap.size]? =_:=a.blk (qk w2 _) τ;refine⟨r.more (qa.alloc _ _),(qg.to_more (m.al _) a (λk N=> ?_)).al _,qq (a.blk (qq H _) τ) _,qq G _,qk _ _,I,J,n2,Nat.le_refl _,ql G⟩;omega
theorem PrQ.mk {J w:World} {R hi Br G H I d:Nat} {s:RdS} {t q:Int} {cs:Array Value} (h:PrS J w R hi Br G H I s t cs) (k:w.heap[d]? =some (.cells #[ψ q] 231 (0,0))):PrQ J w R hi Br G H I d s t cs q:=⟨h,k⟩
theorem qa.st9 {G w:World} (m:qa G w) (B:Nat) (d:G.heap.size<=B) (v0 H I v3 v4 v5 J N O:Value):
  qa G (((((((((w.setCell ⟨B,0,none⟩ v0).setCell ⟨B,1,none⟩ H).setCell ⟨B,2,none⟩ I).setCell ⟨B,3,none⟩ v3).setCell ⟨B,4,none⟩ v4).setCell ⟨B,5,none⟩ v5).setCell ⟨B,6,none⟩ J).setCell ⟨B,7,none⟩ N).setCell ⟨B,8,none⟩ O):=
 ((((((((m.st (p:=⟨B,0,none⟩) d v0).st (p:=⟨B,1,none⟩) d H).st (p:=⟨B,2,none⟩) d I).st (p:=⟨B,3,none⟩) d v3).st (p:=⟨B,4,none⟩) d v4).st (p:=⟨B,5,none⟩) d v5).st (p:=⟨B,6,none⟩) d J).st (p:=⟨B,7,none⟩) d N).st (p:=⟨B,8,none⟩) d O
theorem PrS.put10 {J w:World} {R hi Br H I G d:Nat} {s:RdS} {t:Int} {cs:Array Value} (h:PrS J w R hi Br H I G s t cs) (N:G<d) {v:Value}:PrS J (w.setCell ⟨d,0,none⟩ v) R hi Br H I G s t cs:=by
 have:=h.n0;have:=h.nR;have:=h.n1;have:=h.n5;have:=h.n7;have:=h.n8;have a:qg (λb=>b=d) w (w.setCell ⟨d,0,none⟩ v):=(qg.refl (λb=>b=d) w).set (p:=⟨d,0,none⟩) rfl _;exact⟨h.rd.off a τ (λg O e=>by omega),h.more.st (p:=⟨d,0,none⟩) (by show _<=d;omega) _,a.blk h.br τ,a.blk h.b5 τ,a.blk h.b7 τ,a.blk h.b8 τ,h.n0,h.nR,h.n1,h.n5,h.n7,h.n8⟩
theorem kD (v:Value) (b:List Int) (w:World) (bD:SlI .u8 w v b) (aP:Byt b) (bT:b.length<=1000000):
  Calls prog 195 #[v] w λe w'=>e= .returned (.tuple #[θ #[μ (qW b).1.lo,μ (qW b).1.st,υ (qW b).1.pt,ι (qW b).1.pic,μ (qW b).1.wd,ι (qW b).1.bs,ι (qW b).1.tr,μ (qW b).1.sy,ι (qW b).1.ky],ι (qW b).2.1,ι (qW b).2.2])/\qa w w':=by
 have bg:=κ (bD.keep (qa.alloc w (.cells #[μ false,false,υ 0,ι 0,false,ι 0,ι 0,false,ι 0] 366)));have aq:0<=nB (b,0)/\nB (b,0)<=255:=Zx (s:=(b,0)) aP;obtain⟨ct,cn,rfl,aQ⟩:=bD;clear aQ;have bS:=(Xd aq).1;have co:=(Xd aq).2.2.1;have cp:=(Xd aq).2.2.2;have cq:=(ZA aq).2.2.2.2.1;have ah:num (tkB b 1)=nB (b,0):=rfl;have al:=κ ah;clear ah;generalize bq:nB (b,0)=f at *;have an:=κ bq;clear bq
 go_enter func195,ntmps195
 go_upto_if 18 with (first | (go_at_call 51;(go_call kr _ b _ bg.o aP bT as e w2 ⟨R,rfl,bn,bv,bt⟩;obtain⟨bA,bz,bh,n1,n2⟩:=PrS.begin rfl bn bv bt;have ax:=κ bA;have bI:=κ bz;have aW:=κ bh;clear bv bt bA bz bh bn;have aR:=β0 (qk w2 (.cells #[γ R] 156)))) | (go_at_call 52;(go_call jP (ax.o.more (qa.alloc _ _)) as e bZ ⟨rfl,bB,a3⟩;rw[al.o];have ab:=κ (PrP.make ax.o bI.o aW.o (Nat.le_refl _) n1 n2 (s':=tkS (b,0) 1) bB a3);clear bB a3)))
 generalize w2.heap.size=hi at *;generalize bZ.heap.size=B7 at *;have bW:=β0 ab.o.b5;have aU:=β0 ab.o.b7;have bi:0<=(za (b,0)).2.1/\(za (b,0)).2.1<=255:=by
  unfold za;split
  ·exact Zx (s:=tkS (b,0) 1) (aP.drop _)
  ·exact⟨η,η⟩
 have aa:=κ bi;clear bi
 go_cut [] from 18 (λaS=>PrP w aS R hi w.heap.size hi B7 (za (b,0)).2.2 (za (b,0)).2.1)
 case first=>
  cases hbt:bit f 128 with
  | false=>
   have e:za (b,0)=(f,0,tkS (b,0) 1):=by unfold za;rw[an.o,hbt,if_neg η]
   have H:=κ e;clear e;go_wp2;go_meet;rw[H.o];exact ab.o
  | true=>
   have e:za (b,0)=(f,nB (tkS (b,0) 1),tkS (tkS (b,0) 1) 1):=by unfold za;rw[an.o,hbt,if_pos rfl]
   have H:=κ e;clear e
   go_wp2_with (go_at_call 52;(go_call jP ab.o.rd as e w4 ⟨rfl,ar,a4⟩;have bG:=κ ((ab.o.step (s':=tkS (tkS (b,0) 1) 1) ar a4).put7 (nB (tkS (b,0) 1)));have bE:=qd (ab.o.step (s':=tkS (tkS (b,0) 1) 1) ar a4).b7 0;have cx:=qb (ab.o.step (s':=tkS (tkS (b,0) 1) 1) ar a4).b7 0 (v:= υ 0) rfl;clear ar a4))
   go_meet;rw[H.o];exact bG.o
 case rest=>
  have bp:(za (b,0)).1=f:=by rw[<-an.o];unfold za;split<;>rfl
  have Y:qW b=DT b.length (Zw (za (b,0)).1 (za (b,0)).2.1 (za (b,0)).2.2):=rfl;rw[bp] at Y;have aX:=κ hcut;have bc:=κ Y;clear hcut Y bp ab ax aW aR bW aU al an bg;generalize (za (b,0)).2.1=t at *;generalize (za (b,0)).2.2=s at *;obtain⟨t0,t1⟩:=aa.o;have ad:=(ZA aa.o).2.2.2.2.2;have aZ:=κ ad;clear ad bS;have be:Hid (PrS w (wc.alloc (.cells #[μ (bit f 32),(bit f 16),υ (f%8),ι 0,false,ι 0,ι 0,false,ι 0] 366)) R hi w.heap.size hi B7 wc.heap.size s t (dC f 0 false 0 0 false 0)):=κ (aX.o.box _);generalize bl:go t s=P at *;generalize bm:Jt t P.2=Q at *;generalize bj:QW t Q.2=Bo at *;have ba:=κ bl;have bb:=κ bm;have am:=κ bj;clear bl bm bj;obtain⟨⟨pic,wd⟩,s1⟩:=P;obtain⟨bs,s2⟩:=Q;obtain⟨q,s3⟩:=Bo
  have bH:Hid (Byt s2.1->0<=q/\q<=255):=κ (λbU=>by
   have e:=am.o;unfold QW at e;split at e
   ·cases e;exact Zx bU
   ·cases e;exact⟨ζ,ζ⟩)
  go_upto_if 41 with (first | (go_at_call 250;((with_reducible refine(LP be.o aa.o).mono ?_);rintro e w5 ⟨rfl,ai⟩;rw[ba.o] at ai ⊢;have bf:Hid (PrS w (w5.setCell ⟨wc.heap.size,3,none⟩ (ι pic)) R hi w.heap.size hi B7 wc.heap.size s1 t (dC f pic wd 0 0 false 0)):=κ (ai.put8 3 (ι pic));have ca:=β3 ai.b8;have z3:=qd ai.b8 3;clear ai)) | (go_at_call 250;((with_reducible refine(LQ bf.o aa.o).mono ?_);rintro e w6 ⟨rfl,aj⟩;rw[bb.o] at aj ⊢;have ao:Hid (PrS w (w6.setCell ⟨wc.heap.size,5,none⟩ (ι bs)) R hi w.heap.size hi B7 wc.heap.size s2 t (dC f pic wd bs 0 false 0)):=κ (aj.put8 5 (ι bs));have cb:=β5 aj.b8;have z5:=qd aj.b8 5;have G:=κ (ao.o.on (qa.alloc _ (.cells #[ψ 0] 231)));have aU:=β0 G.o.b7;clear aj ca z3)))
  have ac:=κ (qk (w6.setCell ⟨wc.heap.size,5,none⟩ (ι bs)) (.cells #[ψ 0] 231));have bu:=bH.o ao.o.rd.byt;have ae:=κ bu;have ap:wc.heap.size<(w6.setCell ⟨wc.heap.size,5,none⟩ (ι bs)).heap.size:=ql ao.o.b8;clear bu;generalize (w6.setCell ⟨wc.heap.size,5,none⟩ (ι bs)).alloc (.cells #[ψ 0] 231)=W7 at *;have bx:(w6.setCell ⟨wc.heap.size,5,none⟩ (ι bs)).heap.size=w6.heap.size:=by simp
  rw[bx] at ac ap;generalize w6.heap.size=N10 at *;generalize wc.heap.size=B8 at *;clear be bf ao cb z5 bx aX;have aR:=β0 G.o.b5
  go_cut [] from 41 (λaS=>PrQ w aS R hi w.heap.size hi B7 B8 N10 s3 t (dC f pic wd bs 0 false 0) q)
  case first=>
   cases hbt:(bit t 32||bit t 16) with
   | false=>
    have e:=am.o;unfold QW at e;rw[hbt,if_neg η] at e;have ad:=aZ.o;rw[hbt] at ad;have H:Hid (0=q/\s2=s3):=κ (by cases e;exact⟨rfl,rfl⟩);clear e hbt;go_wp2;go_meet;rw[<-H.o.1,<-H.o.2];exact⟨G.o,ac.o⟩
   | true=>
    have e:=am.o;unfold QW at e;rw[hbt,if_pos rfl] at e;have ad:=aZ.o;rw[hbt] at ad;have H:Hid (nB s2=q/\tkS s2 1=s3):=κ (by cases e;exact⟨rfl,rfl⟩);have ah:num (tkB s2.1 1)=q:=H.o.1;have al:=κ ah;obtain⟨cu,cv⟩:=ae.o;clear e hbt ah
    go_wp2_with (go_at_call 52;(go_call jP G.o.rd as e w8 ⟨rfl,bC,U⟩;rw[al.o];have af:=κ (G.o.step (s':=tkS s2 1) bC U);have bF:=κ (U.blk ac.o (by have:=G.o.n1;have:=G.o.n5;have:=G.o.n7;have:=G.o.n8;omega));have cy:=qd (U.blk ac.o (by have:=G.o.n1;have:=G.o.n5;have:=G.o.n7;have:=G.o.n8;omega)) 0;have cw:=β0 (U.blk ac.o (by have:=G.o.n1;have:=G.o.n5;have:=G.o.n7;have:=G.o.n8;omega));clear bC U))
    go_meet;rw[<-H.o.2];exact⟨af.o.put10 ap,qA (qo bF.o 0 _) rfl⟩
  case rest=>
   have af:=κ hcut;clear hcut aR aU ac G;have bw:Zw f t s=(mkD f t (pic,wd) bs q,s3):=by unfold Zw;rw[ba.o];simp only[bb.o,am.o]
   have bd:=κ bw;clear bw;obtain⟨I,bo⟩: ∃I,I=(if bit t 32 then q/64 else -1):=⟨_,rfl⟩;obtain⟨O,bk⟩: ∃O,O=(if bit t 16 then q%32 else -1):=⟨_,rfl⟩;have ay:=κ bo;have aw:=κ bk;clear bo bk;obtain⟨av,ak⟩:=ν ((if ¬s3.2=0 then s3.2 else if 0<s3.1.length then 4 else 0));have aY:=κ ak;have aQ:=af.o.1.rd.small;by_cases he:s3.2=3
   ·have bV:av=3:=by rw[<-ak,he];rfl
    have Y:qW b=(ds0,0,3):=by rw[bc.o,bd.o];unfold DT;rw[if_pos he]
    subst bV;have H:=κ Y;clear he ak Y aQ
    go_wp2_with first | (go_at_call 250;((with_reducible refine(Gy af.o aa.o ae.o ap).mono ?_);rintro e w9 ⟨rfl,N⟩;rw[<-ay.o];obtain⟨N,ag⟩:=N;have az:Hid (PrS w (w9.setCell ⟨B8,6,none⟩ (ι I)) R hi w.heap.size hi B7 B8 s3 t (dC f pic wd bs I (bit t 32&&bit q 32) 0)):=κ (N.put8 6 (ι I));have au:=κ (qm ag ⟨B8,6,none⟩ (ι I) (by show N10≠B8;omega));have aT:=β6 N.b8;have aV:=qd N.b8 6;clear N ag)) | (go_at_call 250;((with_reducible refine(AO (PrQ.mk az.o au.o) aa.o ae.o).mono ?_);rintro e w10 ⟨rfl,J⟩;rw[<-aw.o];obtain⟨J,aF⟩:=J;have d:Hid (PrS w (w10.setCell ⟨B8,8,none⟩ (ι O)) R hi w.heap.size hi B7 B8 s3 t (dC f pic wd bs I (bit t 32&&bit q 32) O)):=κ (J.put8 8 (ι O));have cc:=β8 J.b8;have bE:=qd J.b8 8;have cd:=β0 d.o.b5;clear J aF aT aV)) | (go_at_call 57;(go_call zl d.o.rd as e bX ⟨rfl,rfl⟩)) | (go_at_call 59;(go_call yY d.o.rd as e bY ⟨rfl,rfl⟩;rw[aY.o];have aG:=β0 d.o.br;have ce:=qd d.o.br 0;have aH:=β1 d.o.br;have cf:=qd d.o.br 1;have aI:=β2 d.o.br;have cg:=qd d.o.br 2;have aJ:=β3 d.o.br;have ch:=qd d.o.br 3;have aK:=β4 d.o.br;have ci:=qd d.o.br 4;have aL:=β5 d.o.br;have cj:=qd d.o.br 5;have aM:=β6 d.o.br;have ck:=qd d.o.br 6;have aN:=β7 d.o.br;have cl:=qd d.o.br 7;have aO:=β8 d.o.br;have cm:=qd d.o.br 8;have bJ:=β0 d.o.b8;have bK:=β1 d.o.b8;have bL:=β2 d.o.b8;have bM:=β3 d.o.b8;have bN:=β4 d.o.b8;have bO:=β5 d.o.b8;have bP:=β6 d.o.b8;have bQ:=β7 d.o.b8;have bR:=β8 d.o.b8))
    (refine bodyPost_ret (v:= .tuple #[θ #[μ false,false,υ 0,ι 0,false,ι 0,ι 0,false,ι 0],ι 0,ι 3]) ?rr1 rfl ?_;(case rr1=>(simp[results,results195,go_sem,aG,aH,aI,aJ,aK,aL,aM,aN,aO])))
    have aA:=κ (λa0 aB aC a3 a4 a5 aD aE U=>qa.st9 d.o.more w.heap.size (Nat.le_refl _) a0 aB aC a3 a4 a5 aD aE U);refine⟨by rw[H.o];rfl, ?_⟩;exact aA.o _ _ _ _ _ _ _ _ _
   ·have cr:(av==3)=false:=by
     have: ¬av=3:=by
      rw[<-ak];split
      ·exact he
      ·split<;>decide
     simpa using this
    have Y:qW b=(mkD f t (pic,wd) bs q,(b.length:Int)-s3.1.length,0):=by rw[bc.o,bd.o];unfold DT;rw[if_neg he]
    have H:=κ Y;clear he ak Y
    go_wp2_with first | (go_at_call 250;((with_reducible refine(Gy af.o aa.o ae.o ap).mono ?_);rintro e w9 ⟨rfl,N⟩;rw[<-ay.o];obtain⟨N,ag⟩:=N;have az:Hid (PrS w (w9.setCell ⟨B8,6,none⟩ (ι I)) R hi w.heap.size hi B7 B8 s3 t (dC f pic wd bs I (bit t 32&&bit q 32) 0)):=κ (N.put8 6 (ι I));have au:=κ (qm ag ⟨B8,6,none⟩ (ι I) (by show N10≠B8;omega));have aT:=β6 N.b8;have aV:=qd N.b8 6;clear N ag)) | (go_at_call 250;((with_reducible refine(AO (PrQ.mk az.o au.o) aa.o ae.o).mono ?_);rintro e w10 ⟨rfl,J⟩;rw[<-aw.o];obtain⟨J,aF⟩:=J;have d:Hid (PrS w (w10.setCell ⟨B8,8,none⟩ (ι O)) R hi w.heap.size hi B7 B8 s3 t (dC f pic wd bs I (bit t 32&&bit q 32) O)):=κ (J.put8 8 (ι O));have cc:=β8 J.b8;have bE:=qd J.b8 8;have cd:=β0 d.o.b5;clear J aF aT aV)) | (go_at_call 57;(go_call zl d.o.rd as e bX ⟨rfl,rfl⟩)) | (go_at_call 59;(go_call yY d.o.rd as e bY ⟨rfl,rfl⟩;rw[aY.o];have aG:=β0 d.o.br;have ce:=qd d.o.br 0;have aH:=β1 d.o.br;have cf:=qd d.o.br 1;have aI:=β2 d.o.br;have cg:=qd d.o.br 2;have aJ:=β3 d.o.br;have ch:=qd d.o.br 3;have aK:=β4 d.o.br;have ci:=qd d.o.br 4;have aL:=β5 d.o.br;have cj:=qd d.o.br 5;have aM:=β6 d.o.br;have ck:=qd d.o.br 6;have aN:=β7 d.o.br;have cl:=qd d.o.br 7;have aO:=β8 d.o.br;have cm:=qd d.o.br 8;have bJ:=β0 d.o.b8;have bK:=β1 d.o.b8;have bL:=β2 d.o.b8;have bM:=β3 d.o.b8;have bN:=β4 d.o.b8;have bO:=β5 d.o.b8;have bP:=β6 d.o.b8;have bQ:=β7 d.o.b8;have bR:=β8 d.o.b8))
    (refine bodyPost_ret (v:= .tuple #[θ #[μ (bit f 32),(bit f 16),υ (f%8),ι pic,wd,ι bs,ι I,(bit t 32&&bit q 32),ι O],ι ((b.length:Int)-s3.1.length),ι 0]) ?rr2 rfl ?_;(case rr2=>(simp[results,results195,go_sem,aG,aH,aI,aJ,aK,aL,aM,aN,aO])))
    have aA:=κ (λa0 aB aC a3 a4 a5 aD aE U=>qa.st9 d.o.more w.heap.size (Nat.le_refl _) a0 aB aC a3 a4 a5 aD aE U);refine⟨by rw[H.o,ay.o,aw.o];rfl, ?_⟩;exact aA.o _ _ _ _ _ _ _ _ _
theorem De (s:RdS):(za s).2.2.1.length<=s.1.length:=by
 have d: ∀s:RdS,(tkS s 1).1.length<=s.1.length:=λs=>by unfold tkS tkL;rw[List.length_drop];omega
 unfold za;split
 ·exact Nat.le_trans (d _) (d _)
 ·exact d _
theorem Fg (b:List Int):0<=(qW b).2.1/\(qW b).2.1<=b.length:=by
 have d:=De (b,0);have G:=Pj (za (b,0)).1 (za (b,0)).2.1 (za (b,0)).2.2;unfold qW DT;split
 ·exact⟨Int.le_refl _,η⟩
 ·simp only at d ⊢;omega
theorem Jo (v:Value) (b:List Int) (w:World) (ar:SlI .u8 w v b) (N:Byt b) (ac:b.length<=1000000):
  Calls prog 134 #[v] w λe w'=>e= .returned (μ (zJ b))/\qa w w':=by
 have J:=κ ar;have aq:=Fg b;have G:zJ b=(decide ((qW b).2.2=0)&&(qW b).1.st&&decide ((qW b).1.pt=0)&&decide ((qW b).2.1<b.length)&&decide (b.getD (qW b).2.1.toNat 0%2=0)):=rfl;obtain⟨aF,aA,rfl,_,O,_⟩:=ar;obtain⟨au,am⟩:=ν ((qW b).1.st);obtain⟨ao,ak⟩:=ν ((qW b).1.pt);obtain⟨af,ag⟩:=ν ((qW b).2.1);obtain⟨an,aj⟩:=ν ((qW b).2.2);rw[ag] at aq;rw[am,ak,ag,aj] at G;have ab:=κ am;have aa:=κ ak;have Y:=κ ag;have U:=κ aj;obtain⟨ad,ae⟩:=aq;clear am ak ag aj;by_cases h1:an=0
 ·cases au with
  | false=>
   have H:Hid (zJ b=false):=κ (by rw[G];simp);subst h1;clear G O ad ae
   go_enter func134,ntmps134
   go_wp2_with (go_at_call 195;(go_call kD _ b _ J.o N ac as e w2 ⟨rfl,d⟩;have I:=κ d;have ah:=κ ((J.o.keep d).keep (qa.alloc _ (.cells #[μ (qW b).1.lo,μ (qW b).1.st,υ (qW b).1.pt,ι (qW b).1.pic,μ (qW b).1.wd,ι (qW b).1.bs,ι (qW b).1.tr,μ (qW b).1.sy,ι (qW b).1.ky] 366)));clear d;rw[ab.o,aa.o,Y.o,U.o]))
   go_ret;exact⟨by rw[H.o];try rfl,I.o.al _⟩
  | true=>
   by_cases h2:ao=0
   ·by_cases h3:af<b.length
    ·obtain⟨k,rfl⟩: ∃k:Nat,af=k:=⟨af.toNat,τ⟩;have ay:k<b.length:=by omega
     obtain⟨ai,az,rfl,ap,aw⟩:=O k ay;have av:=N k;have H:Hid (zJ b=decide (b.getD k 0%2=0)):=κ (by rw[G,decide_eq_true h1,decide_eq_true h2,decide_eq_true h3];simp);have ax: ¬(b.length:Int)<=(k:Int):=by omega
     subst h1 h2;clear G O ad ae;generalize b.getD k 0=x at *;obtain⟨aG,aH⟩:=av
     go_enter func134,ntmps134
     go_wp2_with (go_at_call 195;(go_call kD _ b _ J.o N ac as e w2 ⟨rfl,d⟩;have I:=κ d;rw[ab.o,aa.o,Y.o,U.o];have aE:w2.cell? ⟨ai,az+k,none⟩=some (υ x):=(by rw[d.cells ai _ ap];exact aw);have aD:ai<w2.heap.size:=Nat.lt_of_lt_of_le ap d.size;clear d))
     go_ret;exact⟨by rw[H.o];first | rfl | (congr 2;rw[Bool.eq_iff_iff];simp),I.o.al _⟩
    ·have H:Hid (zJ b=false):=κ (by rw[G,decide_eq_false h3];simp);have ax:(b.length:Int)<=af:=by omega
     subst h1 h2;clear G O ad ae
     go_enter func134,ntmps134
     go_wp2_with (go_at_call 195;(go_call kD _ b _ J.o N ac as e w2 ⟨rfl,d⟩;have I:=κ d;have ah:=κ ((J.o.keep d).keep (qa.alloc _ (.cells #[μ (qW b).1.lo,μ (qW b).1.st,υ (qW b).1.pt,ι (qW b).1.pic,μ (qW b).1.wd,ι (qW b).1.bs,ι (qW b).1.tr,μ (qW b).1.sy,ι (qW b).1.ky] 366)));clear d;rw[ab.o,aa.o,Y.o,U.o]))
     go_ret;exact⟨by rw[H.o];try rfl,I.o.al _⟩
   ·have H:Hid (zJ b=false):=κ (by rw[G,decide_eq_false h2];simp);have aC:(ao != 0)=true:=by simpa using h2
    subst h1;clear G O ad ae h2
    go_enter func134,ntmps134
    go_wp2_with (go_at_call 195;(go_call kD _ b _ J.o N ac as e w2 ⟨rfl,d⟩;have I:=κ d;have ah:=κ ((J.o.keep d).keep (qa.alloc _ (.cells #[μ (qW b).1.lo,μ (qW b).1.st,υ (qW b).1.pt,ι (qW b).1.pic,μ (qW b).1.wd,ι (qW b).1.bs,ι (qW b).1.tr,μ (qW b).1.sy,ι (qW b).1.ky] 366)));clear d;rw[ab.o,aa.o,Y.o,U.o]))
    go_ret;exact⟨by rw[H.o];try rfl,I.o.al _⟩
 ·have H:Hid (zJ b=false):=κ (by rw[G,decide_eq_false h1];simp);have aB:(an != 0)=true:=by simpa using h1
  clear G O ad ae h1
  go_enter func134,ntmps134
  go_wp2_with (go_at_call 195;(go_call kD _ b _ J.o N ac as e w2 ⟨rfl,d⟩;have I:=κ d;have ah:=κ ((J.o.keep d).keep (qa.alloc _ (.cells #[μ (qW b).1.lo,μ (qW b).1.st,υ (qW b).1.pt,ι (qW b).1.pic,μ (qW b).1.wd,ι (qW b).1.bs,ι (qW b).1.tr,μ (qW b).1.sy,ι (qW b).1.ky] 366)));clear d;rw[ab.o,aa.o,Y.o,U.o]))
  go_ret;exact⟨by rw[H.o];try rfl,I.o.al _⟩
theorem Lz: ∀m:Fin 256,bits .and .u8 (m.val:Int) 127=(m.val:Int)%128/\bits .and .u8 (m.val:Int) 15=(m.val:Int)%16:=of_decide_eq_true ξ
theorem Gv {x:Int} (h:0<=x/\x<=255):bits .and .u8 x 127=x%128/\bits .and .u8 x 15=x%16:=by
 obtain⟨m,rfl⟩:=Int.eq_ofNat_of_zero_le h.1;exact Lz ⟨m,τ⟩
structure HdS (w0 w:World) (R hi Br Bd:Nat) (s:RdS) (q:Pk) (vs ve vp:Value):Prop where
 rd:qr w R s.1 s.2 (λg=>g<hi)
 more:qa w0 w
 br:w.heap[Br]? =some (.cells #[.bool false,.int .u8 0,.int .u16 0,.int .u32 0,.int .u32 0,.slice none 0 0,.bool false,.int .u16 0,.slice none 0 0,.slice none 0 0] 63 (0,0))
 bd:w.heap[Bd]? =some (.cells #[.bool q.mr,.int .u8 q.ty,.int .u16 q.sq,.int .u32 q.st,.int .u32 q.sc,vs,.bool q.has,.int .u16 q.pr,ve,vp] 63 (0,0))
 rs:w.ownsRow (Bd+1) 38 1 vs q.ss.length (q.ss.map (Value.int .u32))
 re:w.ownsRow (Bd+1) 5 1 ve q.ex.length (q.ex.map (Value.int .u8))
 rp:w.ownsRow (Bd+1) 5 1 vp q.pl.length (q.pl.map (Value.int .u8))
 n0:w0.heap.size<=Br
 nR:Br<R
 n1:R<hi
 n5:hi<=Bd
theorem HdS.step {I w w':World} {R hi Br Bd:Nat} {s s':RdS} {q:Pk} {H G vp:Value} (h:HdS I w R hi Br Bd s q H G vp) (r:qr w' R s'.1 s'.2 (λg=>g<hi)) (a:qg (λb=>b=R) w w'):HdS I w' R hi Br Bd s' q H G vp:=by
 have:=h.n0;have:=h.nR;have:=h.n1;have:=h.n5;exact⟨r,qg.to_more h.more a (λk d=>by omega),a.blk h.br τ,a.blk h.bd τ,xB h.rs a (λk d=>by omega),xB h.re a (λk d=>by omega),xB h.rp a (λk d=>by omega),h.n0,h.nR,h.n1,h.n5⟩
theorem HdS.on {H w w':World} {R hi Br Bd:Nat} {s:RdS} {q:Pk} {G d vp:Value} (h:HdS H w R hi Br Bd s q G d vp) (m:qa w w'):HdS H w' R hi Br Bd s q G d vp:=
 ⟨h.rd.more m,h.more.trans m,qc m h.br,qc m h.bd,jy h.rs m,jy h.re m,jy h.rp m,h.n0,h.nR,h.n1,h.n5⟩
theorem HdS.fill {N w:World} {R hi Br Bd:Nat} {s:RdS} {q q':Pk} {J I vp G d vp':Value} (h:HdS N w R hi Br Bd s q J I vp) (i:Nat) (v:Value)
  (O:((Γq q J I vp):Array Value).setIfInBounds i v= (Γq q' G d vp'))
  (aa:w.ownsRow (Bd+1) 38 1 G q'.ss.length (q'.ss.map (Value.int .u32))) (U:w.ownsRow (Bd+1) 5 1 d q'.ex.length (q'.ex.map (Value.int .u8))) (Y:w.ownsRow (Bd+1) 5 1 vp' q'.pl.length (q'.pl.map (Value.int .u8))):
  HdS N (w.setCell ⟨Bd,i,none⟩ v) R hi Br Bd s q' G d vp':=by
 have:=h.n0;have:=h.nR;have:=h.n1;have:=h.n5;have a:qg (λb=>b=Bd) w (w.setCell ⟨Bd,i,none⟩ v):=(qg.refl (λb=>b=Bd) w).set (p:=⟨Bd,i,none⟩) rfl _;exact⟨h.rd.off a τ (λg ab e=>by omega),h.more.st (p:=⟨Bd,i,none⟩) (by show _<=Bd;omega) _,a.blk h.br τ,qA (qo h.bd i v) O,xB aa a (λk H=>by omega),xB U a (λk H=>by omega),xB Y a (λk H=>by omega),h.n0,h.nR,h.n1,h.n5⟩
theorem HdS.scal {H w:World} {R hi Br Bd:Nat} {s:RdS} {q:Pk} {G d vp:Value} (h:HdS H w R hi Br Bd s q G d vp) (i:Nat) (v:Value) (q':Pk)
  (O:((Γq q G d vp):Array Value).setIfInBounds i v= (Γq q' G d vp)) (I:q'.ss=q.ss) (J:q'.ex=q.ex) (N:q'.pl=q.pl):HdS H (w.setCell ⟨Bd,i,none⟩ v) R hi Br Bd s q' G d vp:=
 h.fill i v O (by rw[I];exact h.rs) (by rw[J];exact h.re) (by rw[N];exact h.rp)
theorem HdS.begin {w w2:World} {b:List Int} {R:Nat} {Z:Array Value} (H:Z= Γc) (I:(w.alloc (.cells Z 63)).heap.size<=R)
  (r:qr w2 R b 0 (λg=>(w.alloc (.cells Z 63)).heap.size<=g/\g<w2.heap.size)) (m:qa (w.alloc (.cells Z 63)) w2):
  HdS w (w2.alloc (.cells Γc 63)) R w2.heap.size w.heap.size w2.heap.size (b,0) pk0 (δ none 0 0) (δ none 0 0) (δ none 0 0):=by
 subst H;have G:R<w2.heap.size:=by obtain⟨v,d,_⟩:=r.blk;exact ql d
 have J:(w.alloc (.cells Γc 63)).heap.size=w.heap.size+1:=by simp
 exact⟨(r.mono λg h=>h.2).more (qa.alloc _ _),((qa.alloc _ _).trans m).al _,qq (qc m (qk w _)) _,qk w2 _,World.ownsRow_nil _ _ _ _,World.ownsRow_nil _ _ _ _,World.ownsRow_nil _ _ _ _,Nat.le_refl _,τ,G,Nat.le_refl _⟩
theorem Py {w:World} {base e n:Nat} {G:Option Addr} {m cap:Nat} {l:List Int} {k:IntKind} (h:w.ownsRow base e 1 (δ G m cap) l.length (l.map (Value.int k))) (O:n<=l.length) (ac:0<l.length):w.ownsRow base e 1 (δ G n cap) (l.take n).length ((l.take n).map (Value.int k)):=by
 obtain⟨ad,I⟩:=h;have d:(l.take n).length=n:=by rw[List.length_take];omega
 rcases I with ⟨_,ae⟩ | ⟨g,ab,cur,H,J,N,af,aa,U,Y⟩
 ·omega
 ·cases H;refine⟨η,Or.inr ⟨g,_,cur,by rw[d],J,N,by rw[d];omega,aa,U, ?_⟩⟩;rw[d,Nat.mul_one,List.map_take,<-Y,List.take_take,Nat.mul_one,Nat.min_eq_left O]
theorem XN (N:Option Addr) (cap:Nat) (b:List Int) (base:Nat) (w:World) (h:w.ownsRow base 5 1 (δ N b.length cap) b.length (b.map (Value.int .u8))) (ad:Byt b) (al:b.length<=1000000):
  Calls prog 58 #[δ N b.length cap] w λe w'=>(∃v,e= .returned (.tuple #[v,μ (xN b).2])/\w.ownsRow base 5 1 v (xN b).1.length ((xN b).1.map (Value.int .u8)))/\w=w':=by
 have O:=κ h;obtain⟨ap,ag,ab,an,d,G,_⟩:=SlI.of_owns h τ;cases ab;have J:(∃v,(Ending.returned (.tuple #[δ none 0 0,false]))= .returned (.tuple #[v,false])/\w.ownsRow base 5 1 v ([]:List Int).length (([]:List Int).map (Value.int .u8))):=⟨_,rfl,World.ownsRow_nil _ _ _ _⟩;have I:=κ J;clear J;by_cases h0:b.length=0
 ·have e:xN b=([],false):=by unfold xN;rw[if_pos (List.length_eq_zero_iff.1 h0)]
  rw[e];have ac:(b.length:Int)=0:=by omega
  clear d h e G
  go_enter func58,ntmps58
  go_wp2
  go_ret2
  exact⟨I.o,rfl⟩
 ·obtain⟨aa,af,rfl,ah,ai⟩:=d (b.length-1) τ;have ae:=ad (b.length-1);have ac:((b.length:Int)==0)=false:=by rw[beq_eq_false_iff_ne];omega
  have H: ¬b=[]:=λe=>h0 (by rw[e];rfl)
  have e:xN b=if b.getD (b.length-1) 0=0∨(b.length:Int)<b.getD (b.length-1) 0 then ([],false) else (b.take (b.length-(b.getD (b.length-1) 0).toNat),true):=by unfold xN;rw[if_neg H]
  have hi:((b.length:Int)-1).toNat=b.length-1:=by omega
  have am:(b.length:Int)-1<(b.length:Int):=by omega
  have aj:0<=(b.length:Int)-1:=by omega
  have ak:1<=(b.length:Int):=by omega
  generalize b.getD (b.length-1) 0=x at *;obtain⟨aq,ar⟩:=ae;by_cases hx0:x=0
  ·rw[if_pos (Or.inl hx0)] at e;rw[e];subst hx0;clear d h e G h0 H
   go_enter func58,ntmps58
   go_wp2
   go_ret2
   exact⟨I.o,rfl⟩
  ·have ao:(x==0)=false:=by simpa using hx0
   by_cases hxl:(b.length:Int)<x
   ·rw[if_pos (Or.inr hxl)] at e;rw[e];clear d h e G h0 H hx0
    go_enter func58,ntmps58
    go_wp2
    go_ret2
    exact⟨I.o,rfl⟩
   ·rw[if_neg τ] at e;rw[e];have s1:(b.length:Int)-x<=(cap:Int):=by omega
    have s2:((b.length:Int)-x).toNat=b.length-x.toNat:=by omega
    have U:=κ (Py O.o (n:=b.length-x.toNat) τ τ);have Y:=κ s2;clear d h e h0 H hx0 G
    go_enter func58,ntmps58
    go_wp2
    go_ret2
    exact⟨⟨δ (some ⟨aa,af,none⟩) (b.length-x.toNat) cap,by first | rfl | rw[Y.o],by have:=U.o;rw[List.length_take,List.map_take,Nat.min_eq_left (Nat.sub_le _ _)] at this;exact this⟩,rfl⟩
theorem HdS.grow {w0 w w':World} {R hi Br Bd:Nat} {s:RdS} {q:Pk} {vs v':Value} {l:List Int} (h:HdS w0 w R hi Br Bd s q vs (δ none 0 0) (δ none 0 0)) (he:q.ex=[]) (hp:q.pl=[]) (ho:w'.ownsRow (Bd+1) 38 1 v' l.length (l.map (Value.int .u32))) (g:w.grownBy w' vs.ownBlock):
  HdS w0 (w'.setCell ⟨Bd,5,none⟩ v') R hi Br Bd s {q with ss:=l} v' (δ none 0 0) (δ none 0 0):=by
 have h0:=h.n0;have h1:=h.nR;have h2:=h.n1;have h5:=h.n5;have hge: ∀z,vs.ownBlock=some z->Bd+1<=z:=λz hz=>jD h.rs hz
 have aG:qg (λz=>vs.ownBlock=some z) w w':=⟨g.os,g.tape,g.output,g.size,λk hk hs=>g.block k hk (λe=>hs e.symm)⟩;have a:qg (λb=>b=Bd) w' (w'.setCell ⟨Bd,5,none⟩ v'):=(qg.refl (λb=>b=Bd) w').set (p:=⟨Bd,5,none⟩) rfl _;have hR: ¬vs.ownBlock=some R:=λe=>by have:=hge R e;omega
 have hBr: ¬vs.ownBlock=some Br:=λe=>by have:=hge Br e;omega
 have hBd: ¬vs.ownBlock=some Bd:=λe=>by have:=hge Bd e;omega
 refine⟨(h.rd.off aG hR (λz hz e=>by have:=hge z e;omega)).off a τ (λz hz e=>by omega), ?_,a.blk (aG.blk h.br hBr) τ,qA (qo (aG.blk h.bd hBd) 5 v') rfl,xB ho a (λk hk=>by omega), ?_, ?_,h.n0,h.nR,h.n1,h.n5⟩
 ·exact(qg.to_more h.more aG (λk hk=>by have:=hge k hk;omega)).st (p:=⟨Bd,5,none⟩) (by show _<=Bd;omega) _
 ·show World.ownsRow _ _ _ _ _ q.ex.length (q.ex.map _);rw[he];exact World.ownsRow_nil _ _ _ _
 ·show World.ownsRow _ _ _ _ _ q.pl.length (q.pl.map _);rw[hp];exact World.ownsRow_nil _ _ _ _
theorem qa.st10 {w0 w:World} (m:qa w0 w) (B:Nat) (hB:w0.heap.size<=B) (v0 v1 v2 v3 v4 v5 v6 v7 v8 v9:Value):
  qa w0 ((((((((((w.setCell ⟨B,0,none⟩ v0).setCell ⟨B,1,none⟩ v1).setCell ⟨B,2,none⟩ v2).setCell ⟨B,3,none⟩ v3).setCell ⟨B,4,none⟩ v4).setCell ⟨B,5,none⟩ v5).setCell ⟨B,6,none⟩ v6).setCell ⟨B,7,none⟩ v7).setCell ⟨B,8,none⟩ v8).setCell ⟨B,9,none⟩ v9):=
 (((((((((m.st (p:=⟨B,0,none⟩) hB v0).st (p:=⟨B,1,none⟩) hB v1).st (p:=⟨B,2,none⟩) hB v2).st (p:=⟨B,3,none⟩) hB v3).st (p:=⟨B,4,none⟩) hB v4).st (p:=⟨B,5,none⟩) hB v5).st (p:=⟨B,6,none⟩) hB v6).st (p:=⟨B,7,none⟩) hB v7).st (p:=⟨B,8,none⟩) hB v8).st (p:=⟨B,9,none⟩) hB v9
theorem Dx (w:World) (B:Nat) (v0 v1 v2 v3 v4 v5 v6 v7 v8 v9:Value):
  qg (λb=>b=B) w ((((((((((w.setCell ⟨B,0,none⟩ v0).setCell ⟨B,1,none⟩ v1).setCell ⟨B,2,none⟩ v2).setCell ⟨B,3,none⟩ v3).setCell ⟨B,4,none⟩ v4).setCell ⟨B,5,none⟩ v5).setCell ⟨B,6,none⟩ v6).setCell ⟨B,7,none⟩ v7).setCell ⟨B,8,none⟩ v8).setCell ⟨B,9,none⟩ v9):=
 ((((((((((qg.refl (λb=>b=B) w).set (p:=⟨B,0,none⟩) rfl v0).set (p:=⟨B,1,none⟩) rfl v1).set (p:=⟨B,2,none⟩) rfl v2).set (p:=⟨B,3,none⟩) rfl v3).set (p:=⟨B,4,none⟩) rfl v4).set (p:=⟨B,5,none⟩) rfl v5).set (p:=⟨B,6,none⟩) rfl v6).set (p:=⟨B,7,none⟩) rfl v7).set (p:=⟨B,8,none⟩) rfl v8).set (p:=⟨B,9,none⟩) rfl v9
theorem KX (l:List Int) (e:Int):tkB l (l.length:Int)=l/\tkL l (l.length:Int)=[]/\tkE l (l.length:Int) e=e:=by
 refine⟨?_, ?_, ?_⟩
 ·unfold tkB;simp
 ·unfold tkL;simp
 ·unfold tkE;rw[if_neg τ]
theorem wV {w:World} {base e:Nat} {v:Value} {xs:List Value} {n:Nat} (h:w.ownsRow base e 1 v n xs):(n:Int)<=9223372036854775807:=by
 rcases h.2 with ⟨-,rfl⟩ | ⟨g,cap,cur,-,-,-,h1,h2,-⟩
 ·omega
 ·unfold maxLen at h2;omega
theorem Bt {w:World} {B:Nat} {t:TypeId} {a0 a1 a2 a3 a4 a5 a6 a7 a8 a9:Value} (h:w.heap[B]? =some (.cells #[a0,a1,a2,a3,a4,a5,a6,a7,a8,a9] t (0,0))) (v0 v1 v2 v3 v4 v5 v6 v7 v8 v9:Value):
  ((((((((((w.setCell ⟨B,0,none⟩ v0).setCell ⟨B,1,none⟩ v1).setCell ⟨B,2,none⟩ v2).setCell ⟨B,3,none⟩ v3).setCell ⟨B,4,none⟩ v4).setCell ⟨B,5,none⟩ v5).setCell ⟨B,6,none⟩ v6).setCell ⟨B,7,none⟩ v7).setCell ⟨B,8,none⟩ v8).setCell ⟨B,9,none⟩ v9).heap[B]? =some (.cells #[v0,v1,v2,v3,v4,v5,v6,v7,v8,v9] t (0,0)):=
 by
 have h:=qA (cs':= #[v0,a1,a2,a3,a4,a5,a6,a7,a8,a9]) (qo h 0 v0) rfl;have h:=qA (cs':= #[v0,v1,a2,a3,a4,a5,a6,a7,a8,a9]) (qo h 1 v1) rfl;have h:=qA (cs':= #[v0,v1,v2,a3,a4,a5,a6,a7,a8,a9]) (qo h 2 v2) rfl;have h:=qA (cs':= #[v0,v1,v2,v3,a4,a5,a6,a7,a8,a9]) (qo h 3 v3) rfl;have h:=qA (cs':= #[v0,v1,v2,v3,v4,a5,a6,a7,a8,a9]) (qo h 4 v4) rfl;have h:=qA (cs':= #[v0,v1,v2,v3,v4,v5,a6,a7,a8,a9]) (qo h 5 v5) rfl;have h:=qA (cs':= #[v0,v1,v2,v3,v4,v5,v6,a7,a8,a9]) (qo h 6 v6) rfl;have h:=qA (cs':= #[v0,v1,v2,v3,v4,v5,v6,v7,a8,a9]) (qo h 7 v7) rfl;have h:=qA (cs':= #[v0,v1,v2,v3,v4,v5,v6,v7,v8,a9]) (qo h 8 v8) rfl;have h:=qA (cs':= #[v0,v1,v2,v3,v4,v5,v6,v7,v8,v9]) (qo h 9 v9) rfl;exact h
theorem YU {w:World} {B:Nat} {t:TypeId} {a0 a1 a2 a3 a4 a5 a6 a7 a8 a9:Value} (h:w.heap[B]? =some (.cells #[a0,a1,a2,a3,a4,a5,a6,a7,a8,a9] t (0,0))):w.cell? ⟨B,0,none⟩=some a0/\w.cell? ⟨B,1,none⟩=some a1/\w.cell? ⟨B,2,none⟩=some a2/\w.cell? ⟨B,3,none⟩=some a3/\w.cell? ⟨B,4,none⟩=some a4/\w.cell? ⟨B,5,none⟩=some a5/\w.cell? ⟨B,6,none⟩=some a6/\w.cell? ⟨B,7,none⟩=some a7/\w.cell? ⟨B,8,none⟩=some a8/\w.cell? ⟨B,9,none⟩=some a9:=
 ⟨qb h 0 rfl,qb h 1 rfl,qb h 2 rfl,qb h 3 rfl,qb h 4 rfl,qb h 5 rfl,qb h 6 rfl,qb h 7 rfl,qb h 8 rfl,qb h 9 rfl⟩
theorem Lh {w:World} {B:Nat} {t:TypeId} {a0 a1 a2 a3 a4 a5 a6 a7 a8 a9:Value} (h:w.heap[B]? =some (.cells #[a0,a1,a2,a3,a4,a5,a6,a7,a8,a9] t (0,0))):w.frozen? ⟨B,0,none⟩=false/\w.frozen? ⟨B,1,none⟩=false/\w.frozen? ⟨B,2,none⟩=false/\w.frozen? ⟨B,3,none⟩=false/\w.frozen? ⟨B,4,none⟩=false/\w.frozen? ⟨B,5,none⟩=false/\w.frozen? ⟨B,6,none⟩=false/\w.frozen? ⟨B,7,none⟩=false/\w.frozen? ⟨B,8,none⟩=false/\w.frozen? ⟨B,9,none⟩=false:=
 ⟨qd h 0,qd h 1,qd h 2,qd h 3,qd h 4,qd h 5,qd h 6,qd h 7,qd h 8,qd h 9⟩
theorem WU {w0 w:World} {B:Nat} {t:TypeId} {a0 a1 a2 a3 a4 a5 a6 a7 a8 a9:Value} (m:qa w0 w) (hB:w0.heap.size<=B) (h:w.heap[B]? =some (.cells #[a0,a1,a2,a3,a4,a5,a6,a7,a8,a9] t (0,0))) (v0 v1 v2 v3 v4 v5 v6 v7 v8 v9:Value):
  ∃WF,((((((((((w.setCell ⟨B,0,none⟩ v0).setCell ⟨B,1,none⟩ v1).setCell ⟨B,2,none⟩ v2).setCell ⟨B,3,none⟩ v3).setCell ⟨B,4,none⟩ v4).setCell ⟨B,5,none⟩ v5).setCell ⟨B,6,none⟩ v6).setCell ⟨B,7,none⟩ v7).setCell ⟨B,8,none⟩ v8).setCell ⟨B,9,none⟩ v9)=WF/\qa w0 WF/\qg (λb=>b=B) w WF/\WF.cell? ⟨B,0,none⟩=some v0/\WF.cell? ⟨B,1,none⟩=some v1/\WF.cell? ⟨B,2,none⟩=some v2/\WF.cell? ⟨B,3,none⟩=some v3/\WF.cell? ⟨B,4,none⟩=some v4/\WF.cell? ⟨B,5,none⟩=some v5/\WF.cell? ⟨B,6,none⟩=some v6/\WF.cell? ⟨B,7,none⟩=some v7/\WF.cell? ⟨B,8,none⟩=some v8/\WF.cell? ⟨B,9,none⟩=some v9:=
 ⟨_,rfl,m.st10 B hB v0 v1 v2 v3 v4 v5 v6 v7 v8 v9,Dx w B v0 v1 v2 v3 v4 v5 v6 v7 v8 v9,YU (Bt h v0 v1 v2 v3 v4 v5 v6 v7 v8 v9)⟩
def Kg (r:Pk×Int) (w:World) (e:Ending) (w':World):Prop:=
 ∃vs ve vp,e= .returned (.tuple #[.agg #[.bool r.1.mr,.int .u8 r.1.ty,.int .u16 r.1.sq,.int .u32 r.1.st,.int .u32 r.1.sc,vs,.bool r.1.has,.int .u16 r.1.pr,ve,vp],.int .i64 r.2])/\PkS w' vs ve vp r.1/\qa w w'
def yX (r:Pk×Int) (w:World) (e:Ending) (w':World):Prop:=
 ∃vs ve vp,e= .returned (.tuple #[.agg #[.bool r.1.mr,.int .u8 r.1.ty,.int .u16 r.1.sq,.int .u32 r.1.st,.int .u32 r.1.sc,vs,.bool r.1.has,.int .u16 r.1.pr,ve,vp],.int .i64 r.2])/\PkS w' vs ve vp r.1/\qa w w'/\ ∀b,(vs.ownBlock=some b∨ve.ownBlock=some b∨vp.ownBlock=some b)->w.heap.size<=b
theorem yX.post {r:Pk×Int} {w w':World} {e:Ending} (h:yX r w e w'):Kg r w e w':=by
 obtain⟨vs,ve,vp,h1,h2,h3,_⟩:=h;exact⟨vs,ve,vp,h1,h2,h3⟩
theorem VJ {w:World} (b:Nat) (h:(δ none 0 0).ownBlock=some b∨(δ none 0 0).ownBlock=some b∨(δ none 0 0).ownBlock=some b):w.heap.size<=b:=by
 rcases h with h | h | h<;>cases h
theorem JR {s:RdS} (h:Byt s.1) (k:Nat) (hk:k<=4):0<=num (tkB s.1 k)/\num (tkB s.1 k)<2 ^ (8* k):=zv (tkB s.1 k) k (jI h k) (zf s.1 k τ) τ
def s9H (f:Int) (s:RdS):RdS:=if bit f 32 then (if (xN s.1).2 then ([],s.2) else wrS ([],s.2) 2) else ([],s.2)
def l9H (f:Int) (s:RdS):List Int:=if bit f 32 then (xN s.1).1 else s.1
theorem EY {f:Int} {s:RdS} (h:Ju s):(s9H f s).2=(vE f s).2/\(s9H f s).1=[]/\((vE f s).2=0->l9H f s=(vE f s).1):=by
 obtain⟨l,e⟩:=s;unfold s9H vE l9H bit;by_cases he:e=0
 ·subst he;by_cases h1:f/32%2=1
  ·simp only[h1,decide_true,if_true,not_true,if_false];by_cases h2:(xN l).2=true
   ·simp[h2]
   ·simp only[h2];unfold wrS;simp
  ·simp[h1]
 ·have hl:l=[]:=h he;subst hl;by_cases h1:f/32%2=1
  ·have hu:(xN []).2=false:=rfl;simp[h1,hu,wrS,he]
  ·simp[h1,he]
theorem KG (v:Value) (b:List Int) (w:World) (sl:SlI .u8 w v b) (hl:(200:Int)<b.length):
  Calls prog 16 #[v] w (yX (xk b) w):=by
 have e:xk b=(pk0,4):=by unfold xk;rw[if_pos hl]
 rw[e];obtain⟨ob,cb,rfl,_⟩:=sl;clear e
 go_enter func16,ntmps16
 go_wp2
 (refine bodyPost_ret (v:= .tuple #[Γc,ι 4]) ?rr1 rfl ?_;(case rr1=>(simp[results,results16,go_sem])))
 refine⟨δ none 0 0,δ none 0 0,δ none 0 0,rfl,⟨SlI.nil _ _,SlI.nil _ _,SlI.nil _ _⟩, ?_,VJ⟩;exact qa.alloc _ _
theorem Qj (v:Value) (b:List Int) (w:World) (sl:SlI .u8 w v b) (hb:Byt b) (hl: ¬(200:Int)<b.length):
  Calls prog 16 #[v] w (yX (xk b) w):=by
 obtain⟨i0,hi',hz0,hz1,hz2⟩:=info_parts (P:=prog) (e:=38) (z:= ω 0) (size:=1) (bytes:=4) ξ;have SL:=κ (sl.keep (qa.alloc w (.cells Γc 63)));have hrd:xk b=Zh b (yo (fH b) (yz (fH b) (s5H b))):=by unfold xk;rw[if_neg hl]
 have b1:Byt (s1H b).1:=hb.drop _;have b2:Byt (s2H b).1:=b1.drop _;have b3:Byt (s3H b).1:=b2.drop _;have b4:Byt (s4H b).1:=b3.drop _;have u1:=JR (s:=(b,0)) hb 1 ζ;have u2:=JR b1 1 ζ;obtain⟨f,hf⟩:=ν (fH b);obtain⟨g,hg⟩:=ν (gH b);obtain⟨sq,hsq⟩: ∃x,num (tkB (s2H b).1 2)=x:=⟨_,rfl⟩;obtain⟨st,hst⟩: ∃x,num (tkB (s3H b).1 4)=x:=⟨_,rfl⟩;obtain⟨sc,hsc⟩: ∃x,num (tkB (s4H b).1 4)=x:=⟨_,rfl⟩;have f0:0<=f/\f<=255:=by rw[<-hf];have h1:num (tkB b 1)<256:=u1.2;have h0:0<=num (tkB b 1):=u1.1;unfold fH;omega
 have g0:0<=g/\g<=255:=by rw[<-hg];have h1:num (tkB (s1H b).1 1)<256:=u2.2;have h0:0<=num (tkB (s1H b).1 1):=u2.1;unfold gH;omega
 have E1:Hid (num (tkB b 1)=f):=κ hf;have E2:Hid (num (tkB (s1H b).1 1)=g):=κ hg;have E3:=κ hsq;have E4:=κ hst;have E5:=κ hsc;have hga:=(Gv g0).1;have hfa:=(Gv f0).2;have hfb:=(Xd f0).2.2.2;have hfc:=(Xd f0).2.2.1;have hmk: ∀x l,mkH b x l=⟨decide (128<=g),g%128,sq,st,sc,x.1,bit f 16,x.2.1,x.2.2,l⟩:=λx l=>by unfold mkH bit;rw[hf,hg,hsq,hst,hsc]
 have hen: ∀x,Zh b x=if (vE f x.2).2=0 then (mkH b x.1 (vE f x.2).1,0) else (pk0,(vE f x.2).2):=λx=>by unfold Zh;rw[hf]
 rw[hf] at hrd;obtain⟨S6,hS6⟩:=ν (yz f (s5H b));have hsh6:Ju S6:=by
  rw[<-hS6];have h5:Ju (s5H b):=by rw[WX];exact vw _ _
  unfold yz wrS;split
  ·split
   ·exact h5
   ·intro _;rfl
  ·exact h5
 rw[hS6] at hrd;rw[hrd,hen,hmk];obtain⟨X,hX⟩:=ν (yo f S6);rw[hX];obtain⟨⟨L7,P7,X7⟩,S8⟩:=X;have hx0:(L7=(j6 (f%16).toNat S6).1)/\(bit f 16=true->P7=(Qt (j6 (f%16).toNat S6).2).1.1/\X7=(Qt (j6 (f%16).toNat S6).2).1.2/\S8=(Qt (j6 (f%16).toNat S6).2).2)/\(bit f 16=false->P7=0/\X7=[]/\S8=(j6 (f%16).toNat S6).2):=by
  unfold yo at hX;unfold bit;by_cases h1:f/16%2=1
  ·rw[if_pos h1] at hX;cases hX;simp[h1]
  ·rw[if_neg h1] at hX;cases hX;simp[h1]
 clear hX;have HS6:=κ hS6;obtain⟨f0,f1⟩:=f0;obtain⟨g0,g1⟩:=g0;have hs9t:bit f 32=true->s9H f S8=(if (xN S8.1).2 then ([],S8.2) else wrS ([],S8.2) 2)/\l9H f S8=(xN S8.1).1:=λh=>by unfold s9H l9H;simp[h]
 have hs9f:bit f 32=false->s9H f S8=([],S8.2)/\l9H f S8=S8.1:=λh=>by unfold s9H l9H;simp[h]
 have hs9p:=λh=> @EY f S8 h
 obtain⟨S9,hS9⟩:=ν (s9H f S8);obtain⟨L9,hL9⟩:=ν (l9H f S8);obtain⟨FH,hFH⟩:=ν (bit f 16);obtain⟨FP,hFP⟩:=ν (bit f 32);rw[hS9,hL9,hFP] at hs9t hs9f;rw[hS9,hL9] at hs9p;rw[hFH] at hx0 hfb ⊢;rw[hFP] at hfc;obtain⟨PL,hPL⟩:=ν ((vE f S8).1);obtain⟨PE,hPE⟩:=ν ((vE f S8).2);rw[hPL,hPE] at hs9p ⊢;have H9T:=κ hs9t;have H9F:=κ hs9f;have H9P:=κ hs9p;clear hs9t hs9f hs9p hS9 hL9 hFH hFP hPL hPE;obtain⟨QR,hQR⟩: ∃QR:Pk×Int,(if PE=0 then (Pk.mk (decide (128<=g)) (g%128) sq st sc L7 FH P7 X7 PL,(0:Int)) else (pk0,PE))=QR:=⟨_,rfl⟩;rw[hQR];obtain⟨ob,cb,rfl,-⟩:=sl;have hgm:0<=g%128/\g%128<=127:=by omega
 obtain⟨NS,hNS⟩: ∃NS:Nat,f%16=(NS:Int):=⟨(f%16).toNat,τ⟩;have hns15:NS<=15:=by omega
 have hnst:(f%16).toNat=NS:=by omega
 rw[hNS] at hfa;rw[hnst] at hx0;have HX0:=κ hx0;clear hx0;have HNST:=κ hnst;clear hrd b1 b2 b3 b4 u1 u2 hf hg hsq hst hsc hmk hen hS6 hsh6 hNS hnst;obtain⟨GM,hGM⟩:=ν (g%128);rw[hGM] at hga hgm hQR;have HQ:=κ hQR;clear hQR;obtain⟨gm0,gm1⟩:=hgm;clear hGM;have hb200:b.length<=1000000:=by omega
 go_enter func16,ntmps16
 go_upto_region 10 with (first | (go_at_call 51;(go_call kr _ b _ SL.o hb hb200 as e w2 ⟨R,rfl,hR,hr,hm⟩;have H0:=κ (HdS.begin rfl hR hr hm);clear hR hr hm)) | (go_at_call 52;((with_reducible refine(jP H0.o.rd).mono ?_);rintro e w3 ⟨rfl,r3,a3⟩;rw[E1.o];have H1:=κ (H0.o.step (s':=s1H b) r3 a3);clear r3 a3)) | (go_at_call 52;((with_reducible refine(jP H1.o.rd).mono ?_);rintro e w4 ⟨rfl,r4,a4⟩;rw[E2.o];have H2:=κ (H1.o.step (s':=s2H b) r4 a4);clear r4 a4;have x0:=β0 H2.o.bd;have z0:=qd H2.o.bd 0;have x1:=β1 H2.o.bd;have z1:=qd H2.o.bd 1;have H3:Hid (HdS w ((w4.setCell ⟨w2.heap.size,0,none⟩ (μ (decide (128<=g)))).setCell ⟨w2.heap.size,1,none⟩ (υ GM)) R w2.heap.size w.heap.size w2.heap.size (s2H b) ⟨(decide (128<=g)),GM,0,0,0,[],false,0,[],[]⟩ (δ none 0 0) (δ none 0 0) (δ none 0 0)):=κ ((H2.o.scal 0 (μ (decide (128<=g))) ⟨(decide (128<=g)),0,0,0,0,[],false,0,[],[]⟩ rfl rfl rfl rfl).scal 1 (υ GM) ⟨(decide (128<=g)),GM,0,0,0,[],false,0,[],[]⟩ rfl rfl rfl rfl))) | (go_at_call 53;(go_call xm H3.o.rd as e w5 ⟨rfl,r5,a5⟩;rw[E3.o];have H4:=κ (H3.o.step (s':=s3H b) r5 a5);clear r5 a5 x0 z0 x1 z1;have x2:=β2 H4.o.bd;have z2:=qd H4.o.bd 2;have H5:Hid (HdS w (w5.setCell ⟨w2.heap.size,2,none⟩ (φ sq)) R w2.heap.size w.heap.size w2.heap.size (s3H b) ⟨(decide (128<=g)),GM,sq,0,0,[],false,0,[],[]⟩ (δ none 0 0) (δ none 0 0) (δ none 0 0)):=κ (H4.o.scal 2 (φ sq) ⟨(decide (128<=g)),GM,sq,0,0,[],false,0,[],[]⟩ rfl rfl rfl rfl))) | (go_at_call 54;((with_reducible refine(jz H5.o.rd).mono ?_);rintro e w6 ⟨rfl,r6,a6⟩;rw[E4.o];have H6:=κ (H5.o.step (s':=s4H b) r6 a6);clear r6 a6 x2 z2;have x3:=β3 H6.o.bd;have z3:=qd H6.o.bd 3;have H7:Hid (HdS w (w6.setCell ⟨w2.heap.size,3,none⟩ (ω st)) R w2.heap.size w.heap.size w2.heap.size (s4H b) ⟨(decide (128<=g)),GM,sq,st,0,[],false,0,[],[]⟩ (δ none 0 0) (δ none 0 0) (δ none 0 0)):=κ (H6.o.scal 3 (ω st) ⟨(decide (128<=g)),GM,sq,st,0,[],false,0,[],[]⟩ rfl rfl rfl rfl))) | (go_at_call 54;((with_reducible refine(jz H7.o.rd).mono ?_);rintro e w7 ⟨rfl,r7,a7⟩;rw[E5.o];have H8:=κ (H7.o.step (s':=s5H b) r7 a7);clear r7 a7 x3 z3;have x4:=β4 H8.o.bd;have z4:=qd H8.o.bd 4;have H9:Hid (HdS w (w7.setCell ⟨w2.heap.size,4,none⟩ (ω sc)) R w2.heap.size w.heap.size w2.heap.size (s5H b) ⟨(decide (128<=g)),GM,sq,st,sc,[],false,0,[],[]⟩ (δ none 0 0) (δ none 0 0) (δ none 0 0)):=κ (H8.o.scal 4 (ω sc) ⟨(decide (128<=g)),GM,sq,st,sc,[],false,0,[],[]⟩ rfl rfl rfl rfl))))
 generalize w7.setCell ⟨w2.heap.size,4,none⟩ (ω sc)=W9 at *;generalize w2.heap.size=hi at *;clear H0 H1 H2 H3 H4 H5 H6 H7 H8 x4 z4 SL E1 E2 E3 E4 E5;obtain⟨FB,fb1,fb2⟩: ∃FB:Bool,(FB=true->(f<128∨191<f))/\(FB=false-> ¬(f<128∨191<f)):=⟨decide (f<128∨191<f),λh=>by simpa using h,λh=>by simpa using h⟩;have FB1:=κ fb1;have FB2:=κ fb2;clear fb1 fb2
 go_cut [46] from 41 (λs46 wx=>s46= μ FB/\wx=W9)
 case first=>
  cases FB with
  | true=>
   have hh:=FB1.o η;by_cases h1:f<128
   ·clear hh;go_wp2;go_meet;exact⟨rfl,rfl⟩
   ·have h2:191<f:=by omega
    clear hh;go_wp2;go_meet;exact⟨rfl,rfl⟩
  | false=>
   have hh:=FB2.o η;have h1: ¬f<128:=by omega
   have h2: ¬191<f:=by omega
   clear hh;go_wp2;go_meet;exact⟨rfl,rfl⟩
 case rest=>
 obtain⟨rfl,rfl⟩:=hcut
 go_upto_if 46 with fail
 go_cut [] from 47 (λwx=>HdS w wx R hi w.heap.size hi S6 ⟨(decide (128<=g)),GM,sq,st,sc,[],false,0,[],[]⟩ (δ none 0 0) (δ none 0 0) (δ none 0 0))
 case first=>
  cases FB with
  | true=>
   have hS:yz f (s5H b)=wrS (s5H b) 2:=by unfold yz;rw[if_pos (FB1.o η)]
   have HX:=κ (HS6.o.symm.trans hS);clear hS
   go_wp2_with (go_at_call 55;(go_call zn H9.o.rd 2 as e w10 ⟨rfl,r10,a10⟩;have H10:=κ (H9.o.step (s':=wrS (s5H b) 2) r10 a10);clear r10 a10))
   go_meet;rw[HX.o];exact H10.o
  | false=>
   have hS:yz f (s5H b)=s5H b:=by unfold yz;rw[if_neg (FB2.o η)]
   have HX:=κ (HS6.o.symm.trans hS);clear hS;go_wp2;go_meet;rw[HX.o];exact H9.o
 case rest=>
 have HC:=κ hcut;clear hcut H9 FB1 FB2 HS6;go_wp2
 go_loopw [51] (λi wr=> ∃k:Nat,k<=NS/\i= υ k/\ ∃vs,HdS w wr R hi w.heap.size hi (j6 k S6).2 ⟨(decide (128<=g)),GM,sq,st,sc,(j6 k S6).1,false,0,[],[]⟩ vs (δ none 0 0) (δ none 0 0)) (λi _=>NS-(intOf i).toNat)
 case atStart=>exact⟨0,τ,rfl,_,HC.o⟩
 case round=>
  obtain⟨k,hk,rfl,vs,hwx⟩:=hrel;have HW:=κ hwx;by_cases hlt:k<NS
  ·have hki:(k:Int)<(NS:Int):=by omega
   have hll:=gU k S6;have HLL:=κ hll;obtain⟨os,ns,cs,rfl,hns,_⟩:=qU hwx.rs;subst hns;have hbd: ¬(hi=R∨(δ os (j6 k S6).1.length cs).ownBlock=some hi):=by
    rintro(e | e)
    ·have:=HW.o.n1;omega
    ·have:=jD HW.o.rs e;omega
   have C5:=λ(x:qu (λb=>b=R∨(δ os (j6 k S6).1.length cs).ownBlock=some b) wr)=>β5 (x.h.blk HW.o.bd hbd)
   clear hwx hll
   go_wp2_with fail
   refine QN (λb=>b=R∨(δ os (j6 k S6).1.length cs).ownBlock=some b) wr 7 8 [3,4,5,7] ?_
   refine Qs3 ?_
   (refine Ql ?_;intro K hK)
   refine(jz (HW.o.rd.more (qa.drewN _ 1))).mono ?_;rintro e w8 ⟨rfl,r8,a8⟩;have a8':qg (λb=>b=R∨(δ os (j6 k S6).1.length cs).ownBlock=some b) wr w8:=((qg.refl _ _).drewN _).trans (a8.mono λb h=>Or.inl h);refine⟨_,rfl,qi a8',hK _ _ ?_⟩;clear hK K
   (refine Ql ?_;intro K hK)
   have a9:=a8'.more (qa.alloc w8 (.cells #[ω (num (tkB (j6 k S6).2.1 4))] 38));refine⟨qi a9,hK _ _ ?_⟩;clear hK K;have J8:=(HW.o.on (qa.drewN wr 1)).step (s':=tkS (j6 k S6).2 4) r8 a8;have J9:=J8.on (qa.alloc w8 (.cells #[ω (num (tkB (j6 k S6).2.1 4))] 38))
   (refine jJ rfl rfl ?_;intro K hK)
   refine XZ (.tmp 54) (.tmp 57) 61 rfl (hi+1) 38 i0 (ω 0) 4 underlying61 hi' hz0 hz1 hz2 rfl (δ os (j6 k S6).1.length cs) .u32 (j6 k S6).1 rfl J9.rs (δ (some ⟨w8.heap.size,0,none⟩) 1 1) [num (tkB (j6 k S6).2.1 4)] rfl (SlI.of_owns (World.ownsRow_lit (e:=38) (size:=1) (base:=w8.heap.size) w8 #[ω (num (tkB (j6 k S6).2.1 4))] 1 (Nat.le_refl _) (by unfold maxLen;omega) rfl) η) (by rw[HLL.o];simp;omega) ζ (by have:=ql J9.bd;omega) ?_;intro v10 w10 ho10 hg10 hb10;have a10:qg (λb=>b=R∨(δ os (j6 k S6).1.length cs).ownBlock=some b) wr w10:=a9.trans ⟨hg10.os,hg10.tape,hg10.output,hg10.size,λk hk hs=>hg10.block k hk (λe=>hs (Or.inr e.symm))⟩;have J10:=κ (J9.grow rfl rfl ho10 hg10);have q5:w10.cell? ⟨hi,5,none⟩=some (δ os (j6 k S6).1.length cs):=by
    have:w10.heap[hi]? =_:=(hg10.block hi (ql J9.bd) (λe=>by have:=jD J9.rs e.symm;omega)).trans J9.bd;exact qb this 5 rfl
   have z5:w10.frozen? ⟨hi,5,none⟩=false:=by
    have:w10.heap[hi]? =_:=(hg10.block hi (ql J9.bd) (λe=>by have:=jD J9.rs e.symm;omega)).trans J9.bd;exact qd this 5
   obtain⟨o10,n10,c10,rfl,hz8,hz9⟩:=qU ho10;clear hz8 hz9 ho10 hg10 hb10;refine⟨qi a10,hK _ _ ?_⟩;clear hK K;go_simp
   iterate 1 (refine qD rfl rfl (qi a10) ?_;intro K hK;go_big_quiet_op;go_big_quiet_on)
   (refine Qe ?_;intro K hK)
   refine hK _ _ ?_;clear hK K;refine qv ?_;go_wp2;go_roundw
   case rel=>exact⟨k+1,τ,by go_num,_,J10.o⟩
   case measure=>simp[intOf];omega
  ·obtain rfl:k=NS:=by omega
   have hki: ¬(k:Int)<(k:Int):=by omega
   clear hwx HC hk hlt;obtain⟨hx1,hx2,hx3⟩:=HX0.o;have hw:=HW.o;rw[<-hx1] at hw;obtain⟨S7,hS7⟩:=ν ((j6 k S6).2);rw[hS7] at hw hx2 hx3;have b7:=hw.rd.byt;have u7:=JR (s:=S7) b7 2 ζ;have u8:=JR (s:=tkS S7 2) (b7.drop _) 2 ζ;unfold Qt at hx2;obtain⟨N7,hN7⟩: ∃x,num (tkB S7.1 2)=x:=⟨_,rfl⟩;obtain⟨N8,hN8⟩: ∃x,num (tkB (tkS S7 2).1 2)=x:=⟨_,rfl⟩;have u7:0<=num (tkB S7.1 2)/\num (tkB S7.1 2)<65536:=u7;have u8:0<=num (tkB (tkS S7 2).1 2)/\num (tkB (tkS S7 2).1 2)<65536:=u8;rw[hN7] at hx2 u7;rw[hN8] at hx2 u8;obtain⟨u70,u71⟩:=u7;obtain⟨u80,u81⟩:=u8;have EN7:=κ hN7;have EN8:=κ hN8;have HB:=κ hw;have HX2:=κ hx2;have HX3:=κ hx3;clear hw hx1 hx2 hx3 hS7 HW HX0 b7 hN7 hN8 HNST;have x6:=β6 HB.o.bd;have z6:=qd HB.o.bd 6;have H1:Hid (HdS w (wr.setCell ⟨hi,6,none⟩ (μ FH)) R hi w.heap.size hi S7 ⟨(decide (128<=g)),GM,sq,st,sc,L7,FH,0,[],[]⟩ vs (δ none 0 0) (δ none 0 0)):=κ (HB.o.scal 6 (μ FH) ⟨(decide (128<=g)),GM,sq,st,sc,L7,FH,0,[],[]⟩ rfl rfl rfl rfl)
   go_upto_if 66 with fail
   go_cut [] from 67 (λwx=> ∃ve,HdS w wx R hi w.heap.size hi S8 ⟨(decide (128<=g)),GM,sq,st,sc,L7,FH,P7,X7,[]⟩ vs ve (δ none 0 0))
   case first=>
    cases FH with
    | false=>
     go_wp2;go_meet;obtain⟨e1,e2,e3⟩:=HX3.o η;rw[e1,e2,e3];exact⟨_,H1.o⟩
    | true=>
     go_wp2_with (first | (go_at_call 53;((with_reducible refine(xm H1.o.rd).mono ?_);rintro e wa ⟨rfl,ra,aa⟩;rw[EN7.o];have H2:=κ (H1.o.step (s':=tkS S7 2) ra aa);clear ra aa x6 z6;have x7:=β7 H2.o.bd;have z7:=qd H2.o.bd 7;have H3:Hid (HdS w (wa.setCell ⟨hi,7,none⟩ (φ N7)) R hi w.heap.size hi (tkS S7 2) ⟨(decide (128<=g)),GM,sq,st,sc,L7,true,N7,[],[]⟩ vs (δ none 0 0) (δ none 0 0)):=κ (H2.o.scal 7 (φ N7) ⟨(decide (128<=g)),GM,sq,st,sc,L7,true,N7,[],[]⟩ rfl rfl rfl rfl))) | (go_at_call 53;((with_reducible refine(xm H3.o.rd).mono ?_);rintro e wb ⟨rfl,rb,ab⟩;rw[EN8.o];have H4:=κ (H3.o.step (s':=tkS (tkS S7 2) 2) rb ab);clear rb ab x7 z7)) | (go_at_call 56;(go_call QQ (4* N8) H4.o.rd as e we ⟨v8,rfl,o8,rc,ac⟩;have H5:=κ (H4.o.step (s':=tkS (tkS (tkS S7 2) 2) (4* N8)) rc ac);have O8:=κ (kA o8 (show hi+1<=wb.heap.size from by have:=ql H4.o.bd;omega));clear rc ac o8;have x8:=β8 H5.o.bd;have z8:=qd H5.o.bd 8;obtain⟨o8,n8,c8,rfl,-,-⟩:=qU O8.o)))
     go_meet;obtain⟨e1,e2,e3⟩:=HX2.o η;rw[e1,e2,e3];exact⟨_,H5.o.fill 8 (δ o8 n8 c8) (q':=⟨(decide (128<=g)),GM,sq,st,sc,L7,true,N7,(tkB (tkS (tkS S7 2) 2).1 (4* N8)),[]⟩) rfl H5.o.rs O8.o H5.o.rp⟩
   case rest=>
    obtain⟨ve,hc⟩:=hcut;have HC:=κ hc;have hb8:=hc.rd.byt;have hl8:=hc.rd.small;have hsh:=hc.rd.shut;have HB8:=κ hb8;have HP:=κ (H9P.o hsh);clear hc H1 HB HX2 HX3 EN7 EN8 x6 z6 H9P hsh hb8
    go_upto_if 84 with (first | (go_at_call 57;(go_call zl HC.o.rd as e wd ⟨rfl,rfl⟩)) | (go_at_call 56;(go_call QQ (S8.1.length:Int) HC.o.rd as e we ⟨v9,rfl,o9,rd,ad⟩;rw[(KX S8.1 S8.2).1] at o9;rw[(KX S8.1 S8.2).2.1,(KX S8.1 S8.2).2.2] at rd;have H5:=κ (HC.o.step (s':=([],S8.2)) rd ad);have O9:=κ (kA o9 (show hi+1<=_ from by have:=ql HC.o.bd;omega));clear rd ad o9;have x9:=β9 H5.o.bd;have z9:=qd H5.o.bd 9;obtain⟨o9,n9,c9,rfl,hn9,-⟩:=qU O9.o;subst hn9;have H6:=κ (H5.o.fill 9 (δ o9 S8.1.length c9) (q':=⟨(decide (128<=g)),GM,sq,st,sc,L7,FH,P7,X7,S8.1⟩) rfl H5.o.rs H5.o.re O9.o))))
    go_cut [8,9] from 85 (λs8 s9 wx=> ∃vp,HdS w wx R hi w.heap.size hi S9 ⟨(decide (128<=g)),GM,sq,st,sc,L7,FH,P7,X7,L9⟩ vs ve vp)
    case first=>
     cases FP with
     | false=>
      go_wp2;go_meet;obtain⟨e1,e2⟩:=H9F.o η;rw[e1,e2];exact⟨_,H6.o⟩
     | true=>
      obtain⟨U,hU⟩:=ν ((xN S8.1).2);have h9:=H9T.o η;rw[hU] at h9;have HU:=κ hU;have H9:=κ h9;clear h9 hU;cases U with
      | true=>
       go_wp2_with (go_at_call 58;(go_call XN o9 c9 S8.1 (hi+1) _ H6.o.rp HB8.o hl8 as e wf ⟨⟨v10,rfl,o10⟩,rfl⟩;rw[HU.o];have O10:=κ o10;clear o10;obtain⟨o10,n10,c10,rfl,-,-⟩:=qU O10.o))
       go_meet;obtain⟨e1,e2⟩:=H9.o;rw[e1,e2,if_pos trivial];exact⟨_,H6.o.fill 9 (δ o10 n10 c10) (q':=⟨(decide (128<=g)),GM,sq,st,sc,L7,FH,P7,X7,(xN S8.1).1⟩) rfl H6.o.rs H6.o.re O10.o⟩
      | false=>
       go_wp2_with (first | (go_at_call 58;(go_call XN o9 c9 S8.1 (hi+1) _ H6.o.rp HB8.o hl8 as e wf ⟨⟨v10,rfl,o10⟩,rfl⟩;rw[HU.o];have O10:=κ o10;clear o10;obtain⟨o10,n10,c10,rfl,-,-⟩:=qU O10.o)) | (go_at_call 55;(go_call zn H6.o.rd 2 as e wg ⟨rfl,rg,ag⟩;have O11:=κ (xB O10.o ag (λk hk=>by have:=H6.o.n1;omega));have H7:=κ (H6.o.step (s':=wrS ([],S8.2) 2) rg ag);clear rg ag;have x9':=β9 H7.o.bd;have z9':=qd H7.o.bd 9)))
       go_meet;obtain⟨e1,e2⟩:=H9.o;rw[e1,e2,if_neg η];exact⟨_,H7.o.fill 9 (δ o10 n10 c10) (q':=⟨(decide (128<=g)),GM,sq,st,sc,L7,FH,P7,X7,(xN S8.1).1⟩) rfl H7.o.rs H7.o.re O11.o⟩
    case rest=>
     obtain⟨vp,hc⟩:=hcut;have HE:=κ hc;clear hc H6 H5 HC H9T H9F x9 z9 O9 HB8;obtain⟨hp1,hp2,hp3⟩:=HP.o;have hev:(if ¬S9.2=0 then S9.2 else if 0<S9.1.length then 4 else 0)=PE:=by
      rw[<-hp1,hp2];by_cases h0:S9.2=0<;>simp[h0]
     have HEV:=κ hev;have HP3:=κ hp3;clear hev hp1 hp2 hp3 HP;obtain⟨os,ns,cs,rfl,-,-⟩:=qU HE.o.rs;obtain⟨oe,ne,ce,rfl,-,-⟩:=qU HE.o.re;obtain⟨op,np,cp,rfl,-,-⟩:=qU HE.o.rp;obtain⟨y0,y1,y2,y3,y4,y5,y6,y7,y8,y9⟩:=YU HE.o.bd
     dsimp only at y0 y1 y2 y3 y4 y5 y6 y7 y8 y9
     obtain⟨g0,g1,g2,g3,g4,g5,g6,g7,g8,g9⟩:=YU HE.o.br;obtain⟨k0,k1,k2,k3,k4,k5,k6,k7,k8,k9⟩:=Lh HE.o.br;by_cases h0:PE=0
     ·have hq:=HQ.o;rw[if_pos h0,<-HP3.o h0] at hq;have HQ2:=κ hq;clear hq HQ HP3;subst h0
      go_wp2_with (go_at_call 59;(go_call yY HE.o.rd as e wh ⟨rfl,rfl⟩;rw[HEV.o]))
      obtain⟨WF,hWF,mf,aw,r0,r1,r2,r3,r4,r5,r6,r7,r8,r9⟩:=WU HE.o.more (Nat.le_refl _) HE.o.br (μ (decide (128<=g))) (υ GM) (φ sq) (ω st) (ω sc) (δ os ns cs) (μ FH) (φ P7) (δ oe ne ce) (δ op np cp);clear g0 g1 g2 g3 g4 g5 g6 g7 g8 g9 k0 k1 k2 k3 k4 k5 k6 k7 k8 k9 y0 y1 y2 y3 y4 y5 y6 y7 y8 y9;rw[hWF];clear hWF
      (refine bodyPost_ret (v:= .tuple #[θ #[μ (decide (128<=g)),υ GM,φ sq,ω st,ω sc,δ os ns cs,FH,φ P7,δ oe ne ce,δ op np cp],ι 0]) ?rr2 rfl ?_;(case rr2=>(simp[results,results16,go_sem,r0,r1,r2,r3,r4,r5,r6,r7,r8,r9])))
      rw[<-HQ2.o]
      refine⟨δ os ns cs,δ oe ne ce,δ op np cp,rfl, ?_,mf,λb hb=>(by
       have:=HE.o.n0;have:=HE.o.n1;have:=HE.o.nR;have:=HE.o.n5;rcases hb with e | e | e
       ·have:=jD HE.o.rs e;omega
       ·have:=jD HE.o.re e;omega
       ·have:=jD HE.o.rp e;omega)⟩
      have:=HE.o.n1;have:=HE.o.nR;have:=HE.o.n5;exact⟨SlI.of_owns (xB HE.o.rs aw (λk hk=>by omega)) (wV HE.o.rs),SlI.of_owns (xB HE.o.re aw (λk hk=>by omega)) (wV HE.o.re),SlI.of_owns (xB HE.o.rp aw (λk hk=>by omega)) (wV HE.o.rp)⟩
     ·have hq:=HQ.o;rw[if_neg h0] at hq;have HQ2:=κ hq;have h0b:(PE != 0)=true:=by simpa using h0
      clear hq HQ HP3
      go_wp2_with (go_at_call 59;(go_call yY HE.o.rd as e wh ⟨rfl,rfl⟩;rw[HEV.o]))
      obtain⟨WF,hWF,mf,aw,r0,r1,r2,r3,r4,r5,r6,r7,r8,r9⟩:=WU HE.o.more (Nat.le_refl _) HE.o.br (μ false) (υ 0) (φ 0) (ω 0) (ω 0) (δ none 0 0) (μ false) (φ 0) (δ none 0 0) (δ none 0 0);clear g0 g1 g2 g3 g4 g5 g6 g7 g8 g9 k0 k1 k2 k3 k4 k5 k6 k7 k8 k9 y0 y1 y2 y3 y4 y5 y6 y7 y8 y9;rw[hWF];clear hWF
      (refine bodyPost_ret (v:= .tuple #[Γc,ι PE]) ?rr3 rfl ?_;(case rr3=>(simp[results,results16,go_sem,r0,r1,r2,r3,r4,r5,r6,r7,r8,r9])))
      rw[<-HQ2.o];exact⟨δ none 0 0,δ none 0 0,δ none 0 0,rfl,⟨SlI.nil _ _,SlI.nil _ _,SlI.nil _ _⟩,mf,VJ⟩
theorem KF (v:Value) (b:List Int) (w:World) (sl:SlI .u8 w v b) (hb:Byt b) (hl: ¬(200:Int)<b.length):Calls prog 16 #[v] w (Kg (xk b) w):=(Qj v b w sl hb hl).mono λ_ _ h=>h.post
theorem HV (w:World) (R A room first:Nat) (c:List Value) (T:List (List Value)) (ac ad aa ab:Int) (css:List (List Value)) (h:qO 2 332 56 w R A room first (c::T) ac ad aa ab css):
  Calls prog 174 #[γ R] w λe w'=>e= .returned (.tuple #[θ c.toArray,true])/\qa w w':=by
 have U:=κ h;have I:=h.ofHead;have J:c.toArray.size=2:=by simpa using I.1
 have ae:=h.fst;have ak:(first:Int)<(room:Int):=by have:=h.fst;omega
 have al:0<=(first:Int):=by omega
 have aj:(((c::T).length:Int)==0)=false:=by simp;omega
 have ag:(w.alloc (.cells Γs 56)).cell? ⟨R,2,none⟩=some (ι (c::T).length):=qb (qq h.ring _) 2 rfl;clear h
 go_enter func174,ntmps174
 go_wp2;obtain⟨W1,H⟩:=ν (w.alloc (.cells Γs 56));have O:Hid (qa w W1):=κ (by rw[<-H];exact qa.alloc _ _);have G:=κ (U.o.more O.o);have N:Hid (W1.heap[w.heap.size]? =some (.cells Γs 56 (0,0))):=κ (by rw[<-H];exact qk w _);rw[H];clear H ag;have ah: ∀x:qp W1,x.w'.cell? ⟨R,0,none⟩=some (δ (some ⟨A,0,none⟩) room room):=λx=>x.cell (ql G.o.ring) (qb G.o.ring 0 rfl)
 have ai: ∀x:qp W1,x.w'.cell? ⟨R,1,none⟩=some (ι first):=λx=>x.cell (ql G.o.ring) (qb G.o.ring 1 rfl)
 have Y: ∀x:qp W1,x.w'.rangeAt A (first* 2) c:=λx=>by have:=(G.o.more x.h).range ae;rw[G.o.head] at this;exact this
 refine Qn W1 10 12 [10,11] ?_
 refine Qq9 ?_
 refine je rfl rfl (qj ρ) 56 (.tmp 19) rfl A (first* 2) rfl c _ (λw' af=>by obtain⟨x,rfl⟩:=af;exact Y x) underlying56 rfl (by rw[I.1];kernel_rfl) ?_;intro K d;go_simp;refine d _ ?_;clear d K;refine yc rfl rfl ζ ?_;intro K d;refine jq 56 (.tmp 2) (.tmp 20) rfl w.heap.size 56 _ c.toArray rfl rfl (qn N.o 1) (by rw[J];kernel_rfl) (by rw[J];rfl) (all_oneCell_toArray I.2) ?_;refine⟨trivial, ?_⟩;go_simp;refine d _ _ ?_;clear d K
 (refine Qe ?_;intro K d)
 refine d _ _ ?_;clear d K;refine qv ?_;go_wp2;refine bodyPost_ret (v:= .tuple #[θ c.toArray,true]) (yD results174 _ _ w.heap.size 56 c.toArray _ _ rfl rfl (jT (qn N.o 1) _) underlying56 rfl (by rw[J];kernel_rfl)) rfl ?_;exact⟨rfl,(j9 _ _ _).to_more (O.o.dr 1) (λk e=>by rw[e];exact Nat.le_refl _)⟩
theorem ud {w:World} {cs:Array Value} {t B:Nat} (d:B=w.heap.size): ∀j u,cs.toList[j]? =some u->(w.alloc (.cells cs t)).cell? ⟨B,j,none⟩=some u:=by
 intro j u h;subst d;exact qb (qk w _) j (by simpa using h)
theorem ZQ (s:LnS) (h:KT s) (acc:Bool) (w:World):Calls prog 176 #[θ #[ι s.most,ι s.row,s.gone],acc] w λe w'=>e= .returned (.tuple #[θ #[ι s.most,ι (jm s acc).1,μ (jm s acc).2.1],μ (jm s acc).2.2])/\qa w w':=by
 obtain⟨d,G,H,_,_⟩:=h;cases hg:s.gone with
 | true=>
  have e:jm s acc=(s.row,true,false):=by unfold jm;rw[if_pos hg]
  rw[e];exact UV s.most s.row acc w
 | false=>
  cases acc with
  | true=>
   have e:jm s true=(0,false,false):=by unfold jm;rw[if_neg (by rw[hg];decide),if_pos rfl]
   rw[e];exact PC s.most s.row w
  | false=>
   have e:jm s false=(s.row+1,s.row+1==s.most,s.row+1==s.most):=by unfold jm;rw[if_neg (by rw[hg];decide),if_neg ζ]
   rw[e];exact Cn s.most s.row τ τ _ _ rfl rfl w
theorem VF (s:LnS) (h:KT s) (acc:Bool) (s':LnS) (e:s'.most=s.most/\s'.row=(jm s acc).1/\s'.gone=(jm s acc).2.1/\s'.rw=s.rw):KT s':=by
 obtain⟨N,O,J,U,Y⟩:=h;obtain⟨d,G,H,I⟩:=e;unfold jm at G H;refine⟨by rw[d];exact N, ?_, ?_,by rw[I];exact U,by rw[I];exact Y⟩
 ·rw[d,G];cases hg:s.gone with
  | true=>simpa using O
  | false=>
   have:=J hg;cases acc<;>simp<;>omega
 ·rw[d,G,H];cases hg:s.gone with
  | true=>simp
  | false=>
   have:=J hg;cases acc<;>simp<;>omega
section
variable {N:Nat->Prop} {w w':World} {k:LnB} {vo:Value} {s s':LnS}
theorem Zi (h:LnX N w k vo s) (acc:Bool) (G:zp s 3=false):Calls prog 121 #[γ k.L,acc] w λe w'=>e= .returned (.tuple #[ι 0,ι 0,false])/\qa w w':=by
 have d:=JH h;rw[G] at d;have d:=κ d;clear G h
 go_enter func121,ntmps121
 go_wp2_with (go_at_call 74;(go_call d.o as e w1 ⟨rfl,H⟩;have I:=κ H;clear H))
 refine bodyPost_ret (v:= .tuple #[ι 0,ι 0,false]) (by simp[results,results121,go_sem]) rfl ?_;exact⟨rfl,I.o⟩
theorem YX (h:LnX N w k vo s) (bh:s.W.length<=1000000) (o:Int×List Int) (T:List (Int×List Int)) (aC:s.C=o::T) (af:Int) (g':Bool) (aD:jm s true=(af,g',false)):
  Calls prog 121 #[γ k.L,true] w λe w'=>e= .returned (.tuple #[ι o.1,ι 1,true])/\ ∃vo',LnX (xd N w w') w' k vo' {s with C:=T,W:=s.W++[o],row:=af,gone:=g'}/\qg N w w':=by
 have I:=κ h;have bE:=κ bh;have ah:=JH h;have bk:zp s 3=true:=by
  show decide (0<s.C.length)=true;rw[aC];simp
 rw[bk] at ah;have ah:=κ ah;obtain⟨be,cD,aV,aW,aT,aU,aX,ai,aA⟩:=h.r3;rw[aC] at aA;obtain⟨c,q,rfl,aB,aP⟩:=aA.uncons;have AQ:=κ aP;have bu:=κ aB;obtain⟨v0,rfl,⟨Y,U,rfl,bW⟩,bX,bY⟩:=aB.read;have bz:=κ ai;have cy:k.R3<w.heap.size:=ql ai.ring;have cu:k.A3<w.heap.size:=ql ai.row;have aK:=κ h.dist;have aF:=ZQ s h.ok true;have bl:=VF s h.ok true {s with C:=T,W:=s.W++[o],row:=af,gone:=g'} (by rw[aD];exact⟨rfl,rfl,rfl,rfl⟩);rw[aD] at aF;have bB:=κ aF;have bC:=κ bl;clear aF bl aD;clear h bk ai aB aP aA bh aC bW bX bY
 go_enter func121,ntmps121
 go_wp2_with (first | (go_at_call 74;(go_call ah.o as e w1 ⟨rfl,ao⟩;have bG:=κ ao;have aw:=κ (qc ao I.o.blk);have aL:=κ (bz.o.more ao);clear ao;have cv:k.L<w1.heap.size:=ql aw.o;have c3:w1.cell? ⟨k.L,3,none⟩=some (π (some ⟨k.R3,0,none⟩)):=qb aw.o 3 rfl)) | (go_at_call 174;(go_call HV w1 k.R3 k.A3 s.room be _ q aV aW aT aU aX aL.o as e w2 ⟨rfl,ap⟩;have az:Hid (qa w w2):=κ (bG.o.trans ap);have ax:=κ (qc ap aw.o);have bx:=κ (aL.o.more ap);clear ap;have cw:k.L<w2.heap.size:=ql ax.o;have c3:w2.cell? ⟨k.L,3,none⟩=some (π (some ⟨k.R3,0,none⟩)):=qb ax.o 3 rfl)) | (go_at_call 175;(go_call NU (w2.alloc (.cells #[ι o.1,δ Y o.2.length U] 56)) k.R3 k.A3 s.room be _ q aV aW aT aU aX (bx.o.more (qa.alloc _ _)) as e H ⟨rfl,⟨cp,bf⟩,a3⟩;have bA:=κ bf;have A3:Hid (qg (RgB k.R3 k.A3) w H):=κ (((qg.of_more az.o).alc _).trans a3);have aJ:Hid (H.heap[k.L]? =some (.cells (jO k vo s) 153 (0,0))):=κ (a3.blk (qq ax.o _) (by obtain⟨⟨aY,aZ,ba,bb,bc,bd⟩,_⟩:=aK.o;rintro(e | e)<;>omega));have aN:Hid (H.heap[w2.heap.size]? =some (.cells #[ι o.1,δ Y o.2.length U] 56 (0,0))):=κ (a3.blk (qk w2 _) (by have:=az.o.size;rintro(e | e)<;>omega));clear bf a3)))
 have am: ∀b,vo.ownBlock=some b->N b/\ ¬k.muts b:=λb d=>I.o.vob d
 have bo: ∀b,vo.ownBlock=some b->b<w.heap.size:=λb d=>I.o.own b (am b d).1
 have z3:w.heap.size<=H.heap.size:=A3.o.size;have cG:w.heap.size<=w2.heap.size:=az.o.size;have bp: ¬vo.ownBlock=some k.L:=λe=>(am _ e).2 (Or.inl rfl)
 have br: ¬vo.ownBlock=some w2.heap.size:=λe=>by have:=bo _ e;omega
 have bD:=κ am;clear am bo;obtain⟨cf,hi,ca,cb,cc⟩:=info_parts (P:=prog) (e:=56) (z:= Γs) (size:=2) (bytes:=32) ξ;have bF:=λ(x:qu (λb=>vo.ownBlock=some b) H)=>β0 (x.h.blk aJ.o bp)
 have aM: ∀x:qu (λb=>vo.ownBlock=some b) H,x.w'.rangeAt w2.heap.size 0 [ι o.1,δ Y o.2.length U]:=λx=>xw (x.h.blk aN.o br)
 refine QN (λb=>vo.ownBlock=some b) H 12 13 [7,8,9,10,12] ?_
 refine Qs6 ?_
 refine je rfl rfl (qi σ) 56 (.tmp 7) rfl w2.heap.size 0 rfl [ι o.1,δ Y o.2.length U] _ (λw' an=>by obtain⟨x,rfl⟩:=an;exact aM x) underlying56 rfl ξ ?_;intro K G;go_simp;refine G _ ?_;clear G K bF aM
 (refine Ql ?_;intro K G)
 refine⟨qi (((qg.refl _ H).drewN 1).alc _),G _ _ ?_⟩;clear G K;have ar:Hid (qg (RgB k.R3 k.A3) w ((H.drewN 1).alloc (.cells #[ι o.1,δ Y o.2.length U] 56))):=κ ((A3.o.drewN 1).alc _);have al: ∀b,RgB k.R3 k.A3 b->k.muts b:=λb d=>Or.inr (Or.inr (Or.inr d))
 have bt:=(I.o.o.step (ar.o.mono λb d _=>al b d)).widen (D':=λb=>(N b∨w.heap.size<=b)->k.muts b) (λb d=>Or.inl λJ=>d (Or.inl J));have bs:jp ROu (λb=>((N b∨w.heap.size<=b)->k.muts b)∨vo.ownBlock=some b) ((H.drewN 1).alloc (.cells #[ι o.1,δ Y o.2.length U] 56)) [ι o.1,δ Y o.2.length U] o:=(bu.o.step (ar.o.mono λb d=>uf (al b d))).other λb d=>by
  rcases d with e | e
  ·exact Or.inl (Or.inl λJ=>e (Or.inl J))
  ·exact Or.inl (Or.inr e)
 refine jJ rfl rfl ?_;intro K G
 refine zK (.tmp 35) (.tmp 37) 53 rfl 0 56 cf (Γs) 2 32 underlying53 hi ca cb cc rfl ζ vo s.W rfl bt H.heap.size [ι o.1,δ Y o.2.length U] o rfl rfl (ud rfl) (by simp[Value.oneCell']) bs (λb d=>by
  by_cases an:b<w.heap.size
  ·have:=ar.o.size;omega
  ·have:=I.o.own b (I.o.muts b (d (Or.inr τ)));omega) ζ (by have:=bE.o;omega) (Nat.zero_le _) ?_
 intro cE w6 aE bj bi;have bI:=κ aE;have bJ:=κ bi;have aa:Hid (qg (λb=>vo.ownBlock=some b) H w6):=κ ((((qg.refl _ H).drewN 1).alc _).trans (qg.of_grown bj));have ay:=κ (aa.o.blk aJ.o bp);have bK:=κ (aa.o.blk aN.o br);obtain⟨ae,ac,ab,rfl,bT,bU⟩:=aE.shape;clear aE bj bi bt bs bT bU;have bM:w6.cell? ⟨k.L,0,none⟩=some vo:=qb ay.o 0 rfl;have bP:w6.frozen? ⟨k.L,0,none⟩=false:=qd ay.o 0;refine⟨qi aa.o,G _ _ ?_⟩;clear G K;go_simp
 (refine Ql ?_;intro K G)
 refine⟨qi aa.o,G _ _ ?_⟩;clear G K
 (refine Ql ?_;intro K G)
 refine⟨qi aa.o,G _ _ ?_⟩;clear G K
 iterate 1 (refine qD rfl rfl (qi aa.o) ?_;intro K G;go_big_quiet_op;go_big_quiet_on)
 (refine Qe ?_;intro K G)
 refine G _ _ ?_;clear G K;refine qv ?_;obtain⟨W7,aj⟩:=ν (w6.setCell ⟨k.L,0,none⟩ (δ ae ac ab));have aH:Hid (qg (λb=>b=k.L) w6 W7):=κ (by rw[<-aj];exact(qg.refl (λb=>b=k.L) w6).set (p:=⟨k.L,0,none⟩) rfl _);have bq: ¬w2.heap.size=k.L:=by omega
 have ag:Hid (W7.heap[k.L]? =some (.cells (jO k (δ ae ac ab) s) 153 (0,0))):=κ (by rw[<-aj];exact qA (qo ay.o 0 _) rfl);have bL:=κ (aH.o.blk bK.o bq);rw[aj];clear aj bM bP;have aQ:W7.cell? ⟨k.L,13,none⟩=some (ι s.most):=qb ag.o 13 rfl;have aR:W7.cell? ⟨k.L,14,none⟩=some (ι s.row):=qb ag.o 14 rfl;have aS:W7.cell? ⟨k.L,15,none⟩=some (μ s.gone):=qb ag.o 15 rfl;have bq: ¬w2.heap.size=k.L:=by omega
 go_wp2_with (go_at_call 176;(go_call bB.o _ as e w8 ⟨rfl,aq⟩;have bH:=κ aq;have O:=κ (qc aq ag.o);have aO:=κ (qc aq bL.o);clear aq;have cx:k.L<w8.heap.size:=ql O.o;have cz:w2.heap.size<w8.heap.size:=ql aO.o;have cF:w8.cell? ⟨w2.heap.size,0,none⟩=some (ι o.1):=qb aO.o 0 rfl;have aQ:w8.cell? ⟨k.L,13,none⟩=some (ι s.most):=qb O.o 13 rfl;have aR:w8.cell? ⟨k.L,14,none⟩=some (ι s.row):=qb O.o 14 rfl;have aS:w8.cell? ⟨k.L,15,none⟩=some (μ s.gone):=qb O.o 15 rfl;have bQ:w8.frozen? ⟨k.L,13,none⟩=false:=qd O.o 13;have bR:w8.frozen? ⟨k.L,14,none⟩=false:=qd O.o 14;have bS:w8.frozen? ⟨k.L,15,none⟩=false:=qd O.o 15))
 refine bodyPost_ret (v:= .tuple #[ι o.1,ι 1,true]) (by simp[results,results121,go_sem]) rfl ?_;obtain⟨WF,ak⟩:=ν ((((w8.setCell ⟨k.L,13,none⟩ (ι s.most)).setCell ⟨k.L,14,none⟩ (ι af)).setCell ⟨k.L,15,none⟩ (μ g')).alloc (.cells #[ι s.most,ι af,g'] 151));have bv:qg (λb=>b=k.L) w8 WF:=by rw[<-ak];exact((((qg.refl (λb=>b=k.L) w8).set (p:=⟨k.L,13,none⟩) rfl _).set (p:=⟨k.L,14,none⟩) rfl _).set (p:=⟨k.L,15,none⟩) rfl _).alc _
 have bw:WF.heap[k.L]? =some (.cells (jO k (δ ae ac ab) {s with C:=T,W:=s.W++[o],row:=af,gone:=g'}) 153 (0,0)):=by rw[<-ak];exact qq (qA (qo (qo (qo O.o 13 _) 14 _) 15 _) rfl) _
 rw[ak];clear ak aQ aR aS bQ bR bS;have aI:qg (λb=>b=k.L) w6 WF:=(aH.o.more bH.o).trans bv;have aG:qg (λb=>b=k.L∨vo.ownBlock=some b) H WF:=(aa.o.mono λb d=>Or.inr d).trans (aI.mono λb d=>Or.inl d);have av:qg (λb=>(b=k.L∨vo.ownBlock=some b)∨RgB k.R3 k.A3 b) w WF:=(A3.o.mono λb d=>Or.inr d).trans (aG.mono λb d=>Or.inl d);obtain⟨⟨aY,aZ,ba,bb,bc,bd⟩,⟨cq,cr,ct,bN,bO⟩,⟨cA,cB,cd,ce⟩,⟨cC,cg,ch⟩,⟨ci,cj⟩,_⟩:=aK.o;have ad: ∀b,k.muts b-> ¬vo.ownBlock=some b:=λb d e=>(bD.o _ e).2 d
 have au:qg (lnM k vo) w WF:=av.mono λb d=>by
  rcases d with (e | e) | e
  ·exact Or.inl (Or.inl e)
  ·exact Or.inr e
  ·exact Or.inl (al b e)
 have bn: ∀b,(δ ae ac ab).ownBlock=some b->vo.ownBlock=some b∨w.heap.size<=b:=λb d=>by
  rcases bJ.o with e | e
  ·exact Or.inl (by rw[<-e];exact d)
  ·rw[d] at e;injection e with e
   subst e;exact Or.inr (by have:=z3;simp;omega)
 have bg: ∀b,((b=k.L∨vo.ownBlock=some b)∨RgB k.R3 k.A3 b)->lnE N k vo b:=λb d=>by
  rcases d with (e | e) | e
  ·exact uf (Or.inl e)
  ·exact Or.inr e
  ·exact uf (al b e)
 have bm: ∀b,lnE (xd N w WF) k (δ ae ac ab) b->lnE N k vo b∨WF.heap.size<=b:=λb d=>Or.inl (xD I.o.own bn d)
 have bV:qV 2 ROu (lnD (xd N w WF) k) WF 0 56 (δ ae ac ab) (s.W++[o]):=(bI.o.step (aI.mono λb d _=>Or.inl d)).widen λb d=>by
  by_cases an:b<WF.heap.size
  ·refine Or.inl λJ=>d ?_
   rcases J with J | J
   ·exact Or.inl J
   ·exact Or.inr ⟨J,an⟩
  ·exact Or.inr τ
 have ck: ¬k.R1=k.L:=Ne.symm aY;have n2: ¬k.A1=k.L:=Ne.symm aZ;have cl: ¬k.R2=k.L:=Ne.symm ba;have cm: ¬k.A2=k.L:=Ne.symm bb;have cn: ¬k.R3=k.L:=Ne.symm bc;have co: ¬k.A3=k.L:=Ne.symm bd;refine⟨rfl,_,I.o.make au.size bw (I.o.r1.step av ?_ ?_ bg bm) (I.o.r2.step av ?_ ?_ bg bm) ⟨_,_,_,_,_,_,_,bA.o.away aG ?_ ?_,AQ.o.mono λc y bZ=>I.o.held bZ au bn⟩ bV bC.o,au.mono λb d=>I.o.inN d⟩
 ·rintro((e | e) | (e | e));exact ck e;exact ad _ (Or.inr (Or.inl (Or.inl rfl))) e;exact bN e;exact bO e
 ·rintro((e | e) | (e | e));exact n2 e;exact ad _ (Or.inr (Or.inl (Or.inr rfl))) e;exact cd e;exact ce e
 ·rintro((e | e) | (e | e));exact cl e;exact ad _ (Or.inr (Or.inr (Or.inl (Or.inl rfl)))) e;exact cg e;exact ch e
 ·rintro((e | e) | (e | e));exact cm e;exact ad _ (Or.inr (Or.inr (Or.inl (Or.inr rfl)))) e;exact ci e;exact cj e
 ·rintro(e | e);exact cn e;exact ad _ (Or.inr (Or.inr (Or.inr (Or.inl rfl)))) e
 ·rintro(e | e);exact co e;exact ad _ (Or.inr (Or.inr (Or.inr (Or.inr rfl)))) e
def DU (s:LnS) (j:Nat):LnS:={s with A:=if 1<j then [] else s.A,B:=if 2<j then [] else s.B,C:=if 3<j then [] else s.C}
theorem Dn (s:LnS) (j:Nat) (h:1<=j/\j<=3):vU (DU s j) j=DU s (j+1):=by
 obtain⟨d,G⟩:=h
 match j,d,G with
 | 1,_,_=>rfl
 | 2,_,_=>rfl
 | 3,_,_=>rfl
theorem wD (h:LnX N w k vo s) (bc:s.W.length<=1000000) (o:Int×List Int) (T:List (Int×List Int)) (am:s.C=o::T) (H:Int) (g':Bool) (z:Bool) (an:jm s false=(H,g',z)):
  Calls prog 121 #[γ k.L,false] w λe w'=>e= .returned (.tuple #[ι o.1,ι (if z then 7 else 0),true])/\LnX (xd N w w') w' k vo (if z then DU {s with row:=H,gone:=g'} 4 else {s with row:=H,gone:=g'})/\qg N w w':=by
 have G:=κ h;have Y:=JH h;have aE:zp s 3=true:=by
  show decide (0<s.C.length)=true;rw[am];simp
 rw[aE] at Y;have Y:=κ Y;obtain⟨aY,bs,aV,aW,aT,aU,aX,aC,aj⟩:=h.r3;rw[am] at aj;obtain⟨c,q,rfl,ak,aS⟩:=aj.uncons;have bk:=κ ak;obtain⟨v0,rfl,⟨aH,aB,rfl,bf⟩,bg,bh⟩:=ak.read;have aJ:=κ aC;have ao:=ZQ s h.ok false;have aF:=VF s h.ok false {s with row:=H,gone:=g'} (by rw[an];exact⟨rfl,rfl,rfl,rfl⟩);rw[an] at ao;have aL:=κ ao;have av:=κ aF;clear ao aF an;clear h aE aC ak aS aj bc am bf bg bh
 go_enter func121,ntmps121
 cases z
 all_goals
  go_wp2_with (first | (go_at_call 74;(go_call Y.o as e w1 ⟨rfl,ad⟩;have aO:=κ ad;have ah:=κ (qc ad G.o.blk);have au:=κ (aJ.o.more ad);clear ad;have bm:k.L<w1.heap.size:=ql ah.o;have c3:w1.cell? ⟨k.L,3,none⟩=some (π (some ⟨k.R3,0,none⟩)):=qb ah.o 3 rfl)) | (go_at_call 174;(go_call HV w1 k.R3 k.A3 s.room aY _ q aV aW aT aU aX au.o as e w2 ⟨rfl,ae⟩;have ax:Hid (qa w w2):=κ (aO.o.trans ae);have I:=κ (qc ae ah.o);have bl:=κ (au.o.more ae);clear ae;have bn:k.L<w2.heap.size:=ql I.o;have c3:w2.cell? ⟨k.L,3,none⟩=some (π (some ⟨k.R3,0,none⟩)):=qb I.o 3 rfl;have ay:w2.cell? ⟨k.L,13,none⟩=some (ι s.most):=qb I.o 13 rfl;have az:w2.cell? ⟨k.L,14,none⟩=some (ι s.row):=qb I.o 14 rfl;have aA:w2.cell? ⟨k.L,15,none⟩=some (μ s.gone):=qb I.o 15 rfl)) | (go_at_call 176;(go_call aL.o (w2.alloc (.cells #[ι o.1,δ aH o.2.length aB] 56)) as e w8 ⟨rfl,af⟩;have aP:Hid (qa w w8):=κ ((ax.o.al _).trans af);have d:=κ (qc af (qq I.o _));have aa:=κ (qc af (qk w2 (.cells #[ι o.1,δ aH o.2.length aB] 56)));clear af;have bo:k.L<w8.heap.size:=ql d.o;have bp:w2.heap.size<w8.heap.size:=ql aa.o;have bt:w.heap.size<=w2.heap.size:=ax.o.size;have bj: ¬w2.heap.size=k.L:=τ;have aI:w8.cell? ⟨w2.heap.size,0,none⟩=some (ι o.1):=qb aa.o 0 rfl;have ay:w8.cell? ⟨k.L,13,none⟩=some (ι s.most):=qb d.o 13 rfl;have az:w8.cell? ⟨k.L,14,none⟩=some (ι s.row):=qb d.o 14 rfl;have aA:w8.cell? ⟨k.L,15,none⟩=some (μ s.gone):=qb d.o 15 rfl;have aZ:w8.frozen? ⟨k.L,13,none⟩=false:=qd d.o 13;have ba:w8.frozen? ⟨k.L,14,none⟩=false:=qd d.o 14;have bb:w8.frozen? ⟨k.L,15,none⟩=false:=qd d.o 15)))
  obtain⟨WF,ab⟩:=ν ((((w8.setCell ⟨k.L,13,none⟩ (ι s.most)).setCell ⟨k.L,14,none⟩ (ι H)).setCell ⟨k.L,15,none⟩ (μ g')).alloc (.cells #[ι s.most,ι H,g'] 151));have ag:qg (λb=>b=k.L) w8 WF:=by rw[<-ab];exact((((qg.refl (λb=>b=k.L) w8).set (p:=⟨k.L,13,none⟩) rfl _).set (p:=⟨k.L,14,none⟩) rfl _).set (p:=⟨k.L,15,none⟩) rfl _).alc _
  have ai:WF.heap[k.L]? =some (.cells (jO k vo {s with row:=H,gone:=g'}) 153 (0,0)):=by rw[<-ab];exact qq (qA (qo (qo (qo d.o 13 _) 14 _) 15 _) rfl) _
  rw[ab];clear ab ay az aA aZ ba bb;have J:qg (λb=>b=k.L) w WF:=(qg.of_more aP.o).trans ag
 ·refine bodyPost_ret (v:= .tuple #[ι o.1,ι 0,true]) (by simp[results,results121,go_sem]) rfl ?_;exact⟨rfl,G.o.setL J ai ⟨rfl,rfl,rfl,rfl,rfl⟩ av.o,J.mono λb O=>by rw[O];exact G.o.muts _ (Or.inl rfl)⟩
 ·have aN:=κ (G.o.setL J ai ⟨rfl,rfl,rfl,rfl,rfl⟩ av.o);have aq:=κ J;have aQ:=κ (ag.blk aa.o bj);have be: ¬k.muts w2.heap.size:=λe=>by have:=G.o.own _ (G.o.muts _ e);omega
  clear J ag ai d aa aI
  go_loopw [12] (λt wr=> ∃j:Nat,1<=j/\j<=4/\t= ι j/\LnX (xd N w wr) wr k vo (DU {s with row:=H,gone:=g'} j)/\qg k.muts WF wr) (λt _=>4-(intOf t).toNat)
  case atStart=>exact⟨1,τ,τ,rfl,aN.o,qg.refl _ _⟩
  case round=>
   obtain⟨j,bd,bq,rfl,aD,ac⟩:=hrel;have aw:=κ aD;have ar:=κ ac;have bi:Hid (w.heap.size<=wr.heap.size):=κ (Nat.le_trans aq.o.size ac.size);have aR:=κ (ac.blk aQ.o be);have aI:wr.cell? ⟨w2.heap.size,0,none⟩=some (ι o.1):=qb aR.o 0 rfl;clear aD ac;by_cases hlt:j<=3
   ·have br:(j:Int)<=3:=by omega
    have aG:(j:Int)=1∨(j:Int)=2∨(j:Int)=3:=by omega
    have aK:=κ (CS aw.o j aG);clear aG
    go_wp2_with (go_at_call 126;(go_call aK.o as e w9 ⟨⟨v9,rfl⟩,U,a9⟩;have aM:=κ U;have ap:=κ a9;clear U a9))
    go_roundw
    case rel=>
     have U:=aM.o;rw[Wx bi.o ap.o.size,Dn _ j ⟨bd,hlt⟩] at U;exact⟨j+1,τ,τ,by go_num,U,ar.o.trans ap.o⟩
    case measure=>simp[intOf];omega
   ·obtain rfl:j=4:=by omega
    go_wp2;refine bodyPost_ret (v:= .tuple #[ι o.1,ι 7,true]) (by simp[results,results121,go_sem]) rfl ?_;exact⟨rfl,aw.o,(aq.o.mono λb O=>by rw[O];exact G.o.muts _ (Or.inl rfl)).trans (ar.o.mono λb O=>G.o.muts b O)⟩
theorem AU (h:LnX N w k vo s) (I:s.W.length<=1000000) (acc:Bool):Calls prog 121 #[γ k.L,acc] w λe w'=>e= .returned (.tuple #[ι (qH s acc).2.1,ι (qH s acc).2.2.1,μ (qH s acc).2.2.2])/\ ∃vo',LnX (xd N w w') w' k vo' (qH s acc).1/\qg N w w':=by
 cases hC:s.C with
 | nil=>
  have e:qH s acc=(s,0,0,false):=by unfold qH;rw[hC]
  rw[e];refine(Zi h acc (by show decide (0<s.C.length)=false;rw[hC];rfl)).mono ?_;rintro e w' ⟨rfl,m⟩;exact⟨rfl,vo,h.grow m,qg.of_more m⟩
 | cons o T=>
  rcases ho:jm s acc with ⟨d,g',b⟩
  cases b with
  | true=>
   have J:acc=false:=by
    cases acc with
    | false=>rfl
    | true=>
     unfold jm at ho;split at ho<;>simp at ho
   subst J;have e:qH s false=(DU {s with row:=d,gone:=g'} 4,o.1,7,true):=by unfold qH;rw[hC];simp only[ho];rfl
   rw[e];refine(wD h I o T hC d g' true ho).mono ?_;rintro e w' ⟨rfl,G,H⟩;exact⟨rfl,vo,G,H⟩
  | false=>
   cases acc with
   | true=>
    have e:qH s true=({s with C:=T,W:=s.W++[o],row:=d,gone:=g'},o.1,1,true):=by unfold qH;rw[hC];simp only[ho];rfl
    rw[e];exact YX h I o T hC d g' ho
   | false=>
    have e:qH s false=({s with row:=d,gone:=g'},o.1,0,true):=by unfold qH;rw[hC];simp only[ho];simp[hC]
    rw[e];refine(wD h I o T hC d g' false ho).mono ?_;rintro e w' ⟨rfl,G,H⟩;exact⟨rfl,vo,G,H⟩
end
theorem Q8 {α:Type} (d:α) (p:Nat->α->Prop): ∀m,(∀i,i<m-> ∃c,p i c)-> ∃l:List α,l.length=m/\ ∀i,i<m->p i (l.getD i d)
 | 0,_=>⟨[],rfl,λi hi=>absurd hi τ⟩
 | m+1,h=>by
  obtain⟨l,G,I⟩:=Q8 d p m λi hi=>h i τ
  obtain⟨c,H⟩:=h m τ;refine⟨l++[c],by simp[G],λi hi=> ?_⟩;by_cases e:i<m
  ·have:=I i e;rw[List.getD_eq_getElem?_getD] at this ⊢;rw[List.getElem?_append_left τ];exact this
  ·obtain rfl:i=m:=by omega
   rw[List.getD_eq_getElem?_getD,List.getElem?_append_right τ,G]
   simpa using H
theorem Q9 {n:Nat}: ∀(css:List (List Value)),(∀c∈css,c.length=n)->css.flatten.length=css.length* n
 | [],_=>by simp
 | c::css,h=>by
  rw[List.flatten_cons,List.length_append,Q9 css λd G=>h d (by simp[G]),h c η,List.length_cons,Nat.add_mul];omega
theorem Ja {n:Nat}: ∀(css:List (List Value)) (i j:Nat),(∀c∈css,c.length=n)->i<css.length->j<n->css.flatten[i* n+j]? =(css.getD i [])[j]?
 | [],_,_,_,h,_=>absurd h η
 | c::css,0,j,hl,_,hj=>by
  have:=hl c η;rw[List.flatten_cons,Nat.zero_mul,Nat.zero_add,List.getElem?_append_left τ];rfl
 | c::css,i+1,j,hl,hi,hj=>by
  have d:=hl c η;rw[List.flatten_cons,List.getElem?_append_right (by rw[d,Nat.add_mul];omega),d,show (i+1)* n+j-n=i* n+j by rw[Nat.add_mul];omega];exact Ja css i j (λG H=>hl G (by simp[H])) (by simpa using hi) hj
theorem Ψ9 {P:Prop} (h:P:=by
 have aD:L.length+M.length<=maxLen:=by
  have:=Nat.le_mul_of_pos_right (L.length+M.length) (show 0<bytes by omega);unfold maxLen;omega
 obtain⟨aY,cap,rfl,bc,aN,bd,be,aO⟩:=aM;obtain⟨⟨xs,ae,aK⟩,aZ⟩:=id aq;cases aY with
 | none=>
  have ah:cap=0:=aO rfl;subst ah;have aP:M=[]:=List.eq_nil_of_length_eq_zero τ;subst aP;refine wpList_append_own_none an s x t ap base e i n au hi v L.length xs U ae av ?_;exact h v w (by simpa using aq) ⟨rfl,rfl,rfl,Nat.le_refl _,λ_ _ _=>rfl⟩ (Or.inl rfl)
 | some ad=>
  obtain⟨css,aJ,af⟩:=Ξa ([]:List Value) (λk cs=> ∀d:k<M.length,∃b H,ad=⟨b,H,none⟩/\b<Y.heap.size/\cs.length=n/\(∀j,j<n->Y.cell? ⟨b,H+k* n+j,none⟩=cs[j]?)/\R Y cs M[k]) M.length (λk d=>by
   obtain⟨b,H,cs,ay,aB,aa,aC,N⟩:=aN k d
   exact⟨cs,λ_=>⟨b,H,by injection ay,aB,aa,aC,N⟩⟩)
  have aw: ∀c∈css,c.length=n:=λc ac=>by
   obtain⟨k,d,rfl⟩:=List.mem_iff_getElem.1 ac;obtain⟨_,_,_,_,aa,_⟩:=af k τ τ;rw[List.getD_eq_getElem?_getD,List.getElem?_eq_getElem d] at aa;exact aa
  have am:css.flatten.length=M.length* n:=by rw[Ξb css aw,aJ]
  have al: ∀k j,k<M.length->j<n->css.flatten[k* n+j]? =(css.getD k [])[j]? :=λk j d J=>Ξc css k j aw τ J
  refine wpList_append_own_at w an s x t ap base e i z n bytes au hi aW aS aG aX aj v L.length xs U ae ad M.length cap css.flatten av am ?_ ?_ aD aH aF ?_
  ·intro j u J;have aL:j<M.length* n:=by rw[<-am];exact(List.getElem?_eq_some_iff.1 J).1
   have ak:j/n<M.length:=by rw[Nat.div_lt_iff_lt_mul aj];exact aL
   have ar:j%n<n:=Nat.mod_lt _ aj;have aA:j/n* n+j%n=j:=by rw[Nat.mul_comm];exact Nat.div_add_mod j n
   obtain⟨b,H,rfl,G,_,ac,_⟩:=af _ ak ak;have az:(⟨b,H,none⟩:Addr).add j=⟨b,H+j,none⟩:=by
    unfold Addr.add;split
    ·rename_i ah;subst ah;rfl
    ·rfl
   rw[az,ao.cells b _ G,show H+j=H+j/n* n+j%n by omega,ac _ ar,<-al _ _ ak ar,aA];exact J
  ·intro u aT;obtain⟨c,ac,aU⟩:=List.mem_flatten.1 aT;obtain⟨k,d,rfl⟩:=List.mem_iff_getElem.1 ac;obtain⟨_,_,_,_,_,_,N⟩:=af k τ τ;rw[List.getD_eq_getElem?_getD,List.getElem?_eq_getElem d] at N;exact aR _ _ _ N u aU
  ·intro v' w' aQ I _ O;have aI: ∀k (d:k<(L++M).length),jp R (λk=>False∨v.ownBlock=some k) w (((xs++css.flatten).drop (k* n)).take n) (L++M)[k]:=by
    intro k d;rw[List.length_append] at d;by_cases e:k<L.length
    ·have bb:k* n+n<=L.length* n:=by
      have:(k+1)* n<=L.length* n:=Nat.mul_le_mul_right n e;rw[Nat.add_mul,Nat.one_mul] at this;exact this
     have bf:=ae.1;have ag:((xs++css.flatten).drop (k* n)).take n=(xs.drop (k* n)).take n:=by
      rw[List.drop_append_of_le_length τ,List.take_append_of_le_length (by rw[List.length_drop];omega)]
     rw[ag,List.getElem_append_left e];exact aK k e
    ·have ai:k-L.length<M.length:=by omega
     obtain⟨_,_,_,_,aa,_,N⟩:=af _ ai ai;have ag:((xs++css.flatten).drop (k* n)).take n=css.getD (k-L.length) []:=by
      apply List.ext_getElem?;intro j;rw[List.getElem?_take];split
      ·rename_i J;rw[List.getElem?_drop,<-al _ _ ai J,List.getElem?_append_right (by rw[ae.1];have:=Nat.mul_le_mul_right n (show L.length<=k by omega);omega),ae.1]
       congr 1
       rw[Nat.sub_mul];have:=Nat.mul_le_mul_right n (show L.length<=k by omega);omega
      ·rename_i J;exact(List.getElem?_eq_none_iff.2 τ).symm
     rw[ag,List.getElem_append_right τ];exact(jp.old aE N (λb G=>by rcases G with G | G;exact absurd G id;exact aV b G)).on ao
   refine h v' w' ⟨⟨xs++css.flatten,by rw[List.length_append];exact aQ,λk d w'' a'=> ?_⟩,λ_ _=>id⟩ I O;refine aI k d w'' ⟨a'.os.trans I.os,a'.tape.trans I.tape,a'.output.trans I.output,Nat.le_trans I.size a'.size,λb G U=> ?_⟩;rw[a'.block b (Nat.lt_of_lt_of_le G I.size) ?_]
   ·exact I.block b G (λe=>U (Or.inr e.symm))
   ·rintro(ab | ab)
    ·exact U (Or.inl ab)
    ·rcases O with O | O
     ·exact U (Or.inr (by rw[<-O];exact ab))
     ·rw[O] at ab;have:w.heap.size=b:=by injection ab
      omega):P:=h
section
open _root_.Go.Proofs.YtlmllmonabafjaaGreatDoor renaming Q8->Ξa,Q9->Ξb,Ja->Ξc
theorem ul {P:Program} (Y w:World) {ops:Array Oper} {rest:List Oper} {o:Oper} {a:Act} {Q:Exit->Act->World->Prop} (an:o.guard=none) (s x:Operand) (t:TypeId)
  (ap:o.op= .call {callee:= .builtin .append,args:= #[s,x],argTypes:= #[t,t]})
  (base:Nat) (e:TypeId) (i:TypeInfo) (z:Value) (n bytes:Nat) (au:P.underlying t=some (.slice e)) (hi:P.info? e=some i) (aW:i.zero=some z)
  (aS:i.size=n) (aG:i.bytes=bytes) (aX:z.cells.size=n) (aj:0<n)
  {α:Type} {R:qJ α} (aE:wC R) (aR: ∀w cs y,R w cs y-> ∀u∈cs,u.oneCell'=true)
  (v:Value) (L:List α) (U:a.eval s=v) (aq:qV n R (λ_=>False) w base e v L)
  (ax:Value) (M:List α) (av:a.eval x=ax) (aM:SlP n R Y ax M) (ao:qa Y w) (aV: ∀b,v.ownBlock=some b->Y.heap.size<=b)
  (ba:1<=bytes) (aH:(L.length+M.length)* bytes<=140737488355328) (aF:base<=w.heap.size)
  (h: ∀v' w',qV n R (λ_=>False) w' base e v' (L++M)->w.grownBy w' v.ownBlock->(v'.ownBlock=v.ownBlock∨v'.ownBlock=some w.heap.size)->wpList P ops Q rest (a.put o.dst v') w'):wpList P ops Q (o::rest) a w:=Ψ9
end
theorem IK: ∀(w:World) (cs:List Value) (y:Int×List Int),ROu w cs y-> ∀u∈cs,u.oneCell'=true:=by
 rintro w cs y ⟨v,rfl,⟨G,cap,rfl,_⟩,_⟩ u d;simp at d;rcases d with rfl | rfl<;>rfl
theorem Fs (w:World):qV 2 ROu (λ_=>False) (w.alloc (.cells #[] 56)) w.heap.size 56 (δ (some ⟨w.heap.size,0,none⟩) 0 0) []:=
 ⟨⟨[],by simpa using World.ownsRow_lit (e:=56) (size:=2) (base:=w.heap.size) w #[] 0 (Nat.le_refl _) (by unfold maxLen;omega) rfl,λi hi=>by simp at hi⟩,λ_ _ h=>h⟩
theorem FZ (v:Value) (l:List (Int×List Int)) (w:World) (h:SlP 2 ROu w v l) (H:l.length<=1000000):
  Calls prog 108 #[v] w λe w'=>(∃v',e= .returned v'/\qV 2 ROu (λ_=>False) w' w.heap.size 56 v' l)/\qa w w':=by
 obtain⟨ak,hi,ah,ai,aj⟩:=info_parts (P:=prog) (e:=56) (z:= Γs) (size:=2) (bytes:=32) ξ;have I:=κ h;have ac:=κ H;obtain⟨al,cap,rfl,J,N,O,U,d⟩:=h;cases al with
 | none=>
  obtain rfl:cap=0:=d rfl;obtain rfl:l=[]:=List.eq_nil_of_length_eq_zero τ;clear I J N O U d H;have ag:=λw=>Lib.run_eql_slice_nil (P:=prog) w 53 56 none 0 0 0 0 underlying53
  go_enter func108,ntmps108
  go_wp2;go_ret;exact⟨⟨_,rfl,qV.nil 2 ROu _ _ _ _⟩,qa.refl _⟩
 | some ad=>
  clear J N O U d H;have ag:=λw=>Lib.run_eql_slice_nil (P:=prog) w 53 56 (some ad) l.length cap 0 0 underlying53
  go_enter func108,ntmps108
  go_wp2_with (at_builtin;refine ul w _ rfl (.tmp 5) (.tmp 6) 53 rfl w.heap.size 56 ak (Γs) 2 32 underlying53 hi ah ai aj rfl ζ FN IK _ [] rfl (Fs w) _ l rfl I.o (qa.alloc _ _) (λb G=>by cases G;exact Nat.le_refl _) ζ (by have:=ac.o;simp;omega) (qa.alloc w _).size ?_;intro am w2 aa Y af;have ae:=κ aa;have ab:Hid (qg (λb=>(δ (some ⟨w.heap.size,0,none⟩) 0 0).ownBlock=some b) (w.alloc (.cells #[] 56)) w2):=κ (qg.of_grown Y);clear aa Y af)
  go_ret;refine⟨⟨_,rfl,by simpa using ae.o⟩, ?_⟩;exact((qg.of_more (S:=λb=>b=w.heap.size) (qa.alloc w _)).trans (ab.o.mono λb G=>by injection G with e;exact e.symm)).to_more (qa.refl _) (λk e=>by rw[e];exact Nat.le_refl _)
theorem Cg {w:World} {base d e n m:Nat} {v:Value} {xs:List Value} (h:w.ownsRow base e n v m xs) (I:d<=base):w.ownsRow d e n v m xs:=by
 obtain⟨G,H⟩:=h;refine⟨G, ?_⟩;rcases H with h | ⟨g,cap,cur,e1,h3,h4⟩
 ·exact Or.inl h
 ·exact Or.inr ⟨g,cap,cur,e1,Nat.le_trans I h3,h4⟩
theorem Ge {S:Nat->Prop} {w w':World} {base e n m:Nat} {v:Value} {xs:List Value} (h:w.ownsRow base e n v m xs) (a:qg S w w') (H: ∀b,v.ownBlock=some b-> ¬S b):w'.ownsRow base e n v m xs:=by
 obtain⟨d,G⟩:=h;refine⟨d, ?_⟩;rcases G with h | ⟨g,cap,cur,e1,h3,h4,h5⟩
 ·exact Or.inl h
 ·exact Or.inr ⟨g,cap,cur,e1,h3,a.blk h4 (H g (by rw[e1];rfl)),h5⟩
def zj (w0 w:World) (v:Value) (W:List (Int×List Int)) (j:Nat):Prop:=
 ∃xs,w.ownsRow w0.heap.size 56 2 v W.length xs/\ ∀i (hi:i<W.length),∃u,xs[i* 2]? =some (.int .i64 (W[i].1))/\xs[i* 2+1]? =some u/\
  (∀w',qg (λk=>v.ownBlock=some k) w w'->SlI .u8 w' u (W[i].2))/\(Byt (W[i].2)/\W[i].2.length<=200)/\(i<j->(∀b,u.ownBlock=some b->w0.heap.size<=b/\b<w.heap.size/\v.ownBlock≠some b)/\w.ownsRow w0.heap.size 5 1 u (W[i].2).length ((W[i].2).map (Value.int .u8)))
theorem zj.start {H w:World} {v:Value} {W:List (Int×List Int)} {D:Nat->Prop} (h:qV 2 ROu D w H.heap.size 56 v W):zj H w v W 0:=by
 obtain⟨⟨xs,o,r⟩,_⟩:=h;refine⟨xs,o,λi hi=> ?_⟩;obtain⟨u,e,_,I,N⟩:=(r i hi).read;have e0:=congrArg (λl:List Value=>l[0]?) e;have G:=congrArg (λl:List Value=>l[1]?) e;simp at e0 G;refine⟨u,e0,G,λw' a=> ?_,⟨I,N⟩,λh=>absurd h τ⟩;obtain⟨U,d,O,_⟩:=(r i hi) w' (a.mono λk J=>Or.inr J);rw[e] at d;simp at d;rw[d];exact O
theorem zj.more {H w w':World} {v:Value} {W:List (Int×List Int)} {j:Nat} (h:zj H w v W j) (m:qa w w'):zj H w' v W j:=by
 obtain⟨xs,o,r⟩:=h;refine⟨xs,zI o (S:=λ_=>False) (qg.of_more m) (λ_ _ h=>h),λi hi=> ?_⟩;obtain⟨u,I,J,N,O,d⟩:=r i hi;exact⟨u,I,J,λw'' a=>N w'' ((qg.of_more m).trans a),O,λh=>⟨λb G=>⟨((d h).1 b G).1,Nat.lt_of_lt_of_le ((d h).1 b G).2.1 m.size,((d h).1 b G).2.2⟩,zI (d h).2 (S:=λ_=>False) (qg.of_more m) (λ_ _ h=>h)⟩⟩
theorem zj.shape {G w:World} {v:Value} {W:List (Int×List Int)} {j:Nat} (h:zj G w v W j): ∃oa cap,v= δ oa W.length cap:=by
 obtain⟨xs,o,_⟩:=h;rcases o.2 with ⟨rfl,d⟩ | ⟨g,cap,cur,rfl,_⟩
 ·exact⟨none,0,by rw[d]⟩
 ·exact⟨_,cap,rfl⟩
theorem zj.at {I w:World} {H:Option Addr} {n cap:Nat} {W:List (Int×List Int)} {j:Nat} (h:zj I w (δ H n cap) W j) (Y:n=W.length) (i:Nat) (hi:i<W.length):
  ∃g,H=some ⟨g,0,none⟩/\I.heap.size<=g/\g<w.heap.size/\ ∃u,w.cell? ⟨g,i* 2,none⟩=some (ι (W[i].1))/\w.cell? ⟨g,i* 2+1,none⟩=some u/\w.frozen? ⟨g,i* 2+1,none⟩=false/\SlI .u8 w u (W[i].2)/\Byt (W[i].2)/\W[i].2.length<=200:=by
 subst Y;obtain⟨xs,o,r⟩:=h;obtain⟨g,rfl,d,G⟩: ∃g,H=some ⟨g,0,none⟩/\I.heap.size<=g/\g<w.heap.size:=by
  rcases o.2 with ⟨_,aa⟩ | ⟨g,c,cur,e,d,G,_⟩
  ·omega
  ·injection e with e1
   exact⟨g,e1,d,lt_of_block G⟩
 obtain⟨u,J,N,O,U,_⟩:=r i hi;exact⟨g,rfl,d,G,u,by rw[o.cellAt _ τ];exact J,by rw[o.cellAt _ τ];exact N,o.frozenAt _,O w (qg.refl _ _),U⟩
theorem zj.put {J w w1:World} {g n cap:Nat} {W:List (Int×List Int)} {j:Nat} (h:zj J w (δ (some ⟨g,0,none⟩) n cap) W j) (ad:n=W.length) (ak:j<W.length) (m:qa w w1) (aj:g<w.heap.size) (O:J.heap.size<=w.heap.size) {u:Value}
  (G:w1.ownsRow w.heap.size 5 1 u (W[j].2).length ((W[j].2).map (Value.int .u8))):zj J (w1.setCell ⟨g,j* 2+1,none⟩ u) (δ (some ⟨g,0,none⟩) n cap) W (j+1):=by
 subst ad;obtain⟨xs,o,r⟩:=h.more m;obtain⟨os,ae⟩:=o.stored (j* 2+1) u;have a:qg (λk=>some g=some k) w1 (w1.setCell ⟨g,j* 2+1,none⟩ u):=qg.of_grown ae;have aa:(w1.setCell ⟨g,j* 2+1,none⟩ u).heap.size=w1.heap.size:=by simp
 refine⟨_,os,λi hi=> ?_⟩;obtain⟨ai,U,ab,ac,Y,I⟩:=r i hi;have am:xs.length=W.length* 2:=o.1;by_cases e:i=j
 ·subst e;refine⟨u,by rw[List.getElem?_set_ne τ];exact U,by rw[List.getElem?_set_self τ],λw' a'=> ?_,Y,λ_=>⟨λb d=>⟨Nat.le_trans O (kf G d),by rw[aa];exact Vm G d,λH=> ?_⟩,Cg (zI G a (λb d e=> ?_)) O⟩⟩
  ·exact(SlI.of_owns G τ).off (D:=λk=>some g=some k) (λb d H=>by have:=kf G d;have N:g=b:=Option.some.inj H;omega) (a.trans a')
  ·have:=kf G d;have N:g=b:=Option.some.inj H;omega
  ·have N:g=b:=Option.some.inj e;omega
 ·refine⟨ai,by rw[List.getElem?_set_ne τ];exact U,by rw[List.getElem?_set_ne τ];exact ab,λw' a'=>ac w' (a.trans a'),Y,λal=>⟨λb d=> ?_,Ge (I τ).2 a (λb d e=>((I τ).1 b d).2.2 e)⟩⟩;obtain⟨af,ag,ah⟩:=(I τ).1 b d;exact⟨af,by rw[aa];exact ag,ah⟩
def ROn (base:Nat):qJ (Int×List Int):=λw cs o=> ∃v,cs=[.int .i64 o.1,v]/\SlI .u8 w v o.2/\Byt o.2/\o.2.length<=200/\(∀b,v.ownBlock=some b->base<=b)/\w.ownsRow base 5 1 v o.2.length (o.2.map (Value.int .u8))
theorem zj.done {I w:World} {v:Value} {W:List (Int×List Int)} (h:zj I w v W W.length):qV 2 (ROn I.heap.size) (λb=>b<I.heap.size) w I.heap.size 56 v W:=by
 obtain⟨xs,o,r⟩:=h;refine⟨⟨xs,o,λi hi=> ?_⟩,λb G ad=>by have:=kf o G;omega⟩;obtain⟨u,O,U,Y,N,H⟩:=r i hi;have aa:(xs.drop (i* 2)).take 2=[ι (W[i].1),u]:=by
  apply List.ext_getElem?;intro k
  match k with
  | 0=>simpa using O
  | 1=>simpa using U
  | k+2=>
   rw[List.getElem?_eq_none (by rw[List.length_take];omega),List.getElem?_eq_none η]
 intro w' a;refine⟨u,aa, ?_,N.1,N.2,λb G=>((H hi).1 b G).1,Ge (H hi).2 a (λb G d=> ?_)⟩
 ·refine(Y w (qg.refl _ _)).off (λb G d=> ?_) a;obtain⟨ab,ac,J⟩:=(H hi).1 b G;rcases d with d | d
  ·omega
  ·exact J d
 ·obtain⟨ab,ac,J⟩:=(H hi).1 b G;rcases d with d | d
  ·omega
  ·exact J d
section
variable {N:Nat->Prop} {w w':World} {k:LnB} {vo:Value} {s:LnS}
theorem Un (h:LnX N w k vo s) (ab:s.W.length<=1000000):Calls prog 48 #[γ k.L] w λe w'=>(∃v,e= .returned v/\qV 2 (ROn w.heap.size) (λb=>b<w.heap.size) w' w.heap.size 56 v s.W)/\qa w w':=by
 have az:w.cell? ⟨k.L,0,none⟩=some vo:=qb h.blk 0 rfl;have ah:=κ (FZ vo s.W w (h.o.sl ζ) ab);have aA:(s.W.length:Int)<=9223372036854775807:=by omega
 clear h ab
 go_enter func48,ntmps48
 go_wp2_with (go_at_call 108;(go_call ah.o as e w1 ⟨⟨aH,rfl,U⟩,af⟩;have am:=κ (zj.start U);have ak:=κ af;obtain⟨av,cap,rfl⟩:=(zj.start U).shape;clear U af))
 go_loopw [12] (λJ wr=> ∃j:Nat,j<=s.W.length/\J= ι j/\zj w wr (δ av s.W.length cap) s.W j/\qa w wr) (λJ _=>s.W.length-(intOf J).toNat)
 case atStart=>exact⟨0,τ,rfl,am.o,ak.o⟩
 case round=>
  obtain⟨j,aB,rfl,ae,ad⟩:=hrel;have d:=κ ae;have H:=κ ad;clear ae ad;by_cases hlt:j<s.W.length
  ·have aC:(j:Int)<(s.W.length:Int):=by omega
   obtain⟨g,rfl,ac,ap,u,ax,ay,aG,I,ao,ar⟩:=d.o.at rfl j hlt;have Y:=κ ap;have aj:=κ ac;have ai:=κ (YE u _ wr I τ);have au:w.heap.size<=wr.heap.size:=H.o.size;obtain⟨aw,an,rfl,_⟩:=id I;clear I ao ar ac ax
   go_wp2_with (go_at_call 50;(go_call ai.o as e ag ⟨⟨v3,rfl,O⟩,G⟩;have al:=κ O;have aa:=κ G;have aF:ag.cell? ⟨g,j* 2+1,none⟩=some (δ aw (s.W[j].2).length an):=(by rw[G.cells _ _ Y.o];exact ay);have p2:ag.frozen? ⟨g,j* 2+1,none⟩=false:=((d.o.more G).at rfl j hlt |>.elim λg' aq=>by obtain⟨e,_,_,_,_,_,f,_⟩:=aq;injection e with e;injection e with e;subst e;exact f);obtain⟨aE,c4,rfl⟩:=zz O;clear O G))
   go_roundw
   case rel=>exact⟨j+1,τ,by go_num,d.o.put rfl hlt aa.o Y.o au al.o,(H.o.trans aa.o).st aj.o _⟩
   case measure=>simp[intOf];omega
  ·obtain rfl:j=s.W.length:=by omega
   have aD: ¬(s.W.length:Int)<(s.W.length:Int):=by omega
   go_wp2;go_ret;exact⟨⟨_,rfl,d.o.done⟩,H.o⟩
end
section
variable {N:Nat->Prop} {w:World} {L:Nat} {s:LnS}
theorem JK (h:zw N w L s):Calls prog 69 #[γ L] w λe w'=>e= .returned (μ s.gone)/\qa w w':=by
 obtain⟨k,vo,rfl,x⟩:=h;exact gM x
theorem IR (h:zw N w L s) (n:Int) (d:n=1∨n=2∨n=3):Calls prog 74 #[γ L,ι n] w λe w'=>e= .returned (μ (zp s n))/\qa w w':=by
 obtain⟨k,vo,rfl,x⟩:=h;rcases d with rfl | rfl | rfl
 ·exact YL x
 ·exact YK x
 ·exact JH x
theorem FA (h:zw N w L s):Calls prog 68 #[γ L] w λe w'=>e= .returned (θ #[ι s.A.length,ι s.B.length,ι s.C.length])/\qa w w':=by
 obtain⟨k,vo,rfl,x⟩:=h;exact Fz x
theorem Xj (h:zw N w L s):Calls prog 67 #[γ L] w λe w'=>e= .returned (.tuple #[θ #[ι s.cur,ι s.tgt],s.wanted])/\qa w w':=by
 obtain⟨k,vo,rfl,x⟩:=h;exact Bq x
theorem EN (h:zw N w L s) (n:Int):Calls prog 91 #[γ L,ι n] w λe w'=>e= .returned (ι (jA s n).2)/\zw (xd N w w') w' L (jA s n).1/\qg N w w':=by
 obtain⟨k,vo,rfl,x⟩:=h;refine(EM x n).mono ?_;rintro e w' ⟨rfl,d,G⟩;exact⟨rfl,⟨k,vo,rfl,d⟩,G⟩
theorem Du (h:zw N w L s):Calls prog 137 #[γ L] w λe w'=>e= .returned (.tuple #[ι (qN s).2.1,ι (qN s).2.2.1,μ (qN s).2.2.2])/\zw (xd N w w') w' L (qN s).1/\qg N w w':=by
 obtain⟨k,vo,rfl,x⟩:=h;refine(Dr x).mono ?_;rintro e w' ⟨rfl,d,G⟩;exact⟨rfl,⟨k,vo,rfl,d⟩,G⟩
theorem UF (h:zw N w L s):Calls prog 138 #[γ L] w λe w'=>e= .returned (.tuple #[ι (qL s).2.1,μ (qL s).2.2.1,μ (qL s).2.2.2])/\zw (xd N w w') w' L (qL s).1/\qg N w w':=by
 obtain⟨k,vo,rfl,x⟩:=h;refine(UD x).mono ?_;rintro e w' ⟨rfl,d,G⟩;exact⟨rfl,⟨k,vo,rfl,d⟩,G⟩
theorem AY (h:zw N w L s) (H:s.W.length<=1000000) (acc:Bool):Calls prog 121 #[γ L,acc] w λe w'=>e= .returned (.tuple #[ι (qH s acc).2.1,ι (qH s acc).2.2.1,μ (qH s acc).2.2.2])/\zw (xd N w w') w' L (qH s acc).1/\qg N w w':=by
 obtain⟨k,vo,rfl,x⟩:=h;refine(AU x H acc).mono ?_;rintro e w' ⟨rfl,vo',d,G⟩;exact⟨rfl,⟨k,vo',rfl,d⟩,G⟩
theorem IG (h:zw N w L s) (x:ItS) (os H I:Option Addr) (G ke d:Nat) (Y:PkS w (δ os x.pk.ss.length G) (δ H x.pk.ex.length ke) (δ I x.pk.pl.length d) x.pk) (U:wP x.pk) (aa:gu x.pk):
  Calls prog 136 #[γ L,(Γj x os G H ke I d)] w λe w'=>e= .returned (.tuple #[ι (jL s x).2.1,μ (jL s x).2.2.1,ι (jL s x).2.2.2])/\zw (xd N w w') w' L (jL s x).1/\qg N w w':=by
 obtain⟨k,vo,rfl,ab⟩:=h;refine(IF ab x os H I G ke d Y U aa).mono ?_;rintro e w' ⟨rfl,J,O⟩;exact⟨rfl,⟨k,vo,rfl,J⟩,O⟩
theorem Uo (h:zw N w L s) (d:s.W.length<=1000000):Calls prog 48 #[γ L] w λe w'=>(∃v,e= .returned v/\qV 2 (ROn w.heap.size) (λb=>b<w.heap.size) w' w.heap.size 56 v s.W)/\qa w w':=by
 obtain⟨k,vo,rfl,x⟩:=h;exact Un x d
end
theorem Mn (w:World):(zeroValue 35).run prog w= .ok (δ none 0 0) w:=by kernel_rfl
theorem Lv (w:World) (A i c:Nat) (v:Value) (d:w.cell? ⟨A,i,none⟩=some v) (G:w.frozen? ⟨A,i,none⟩=false):
  (Builtin.clear_ #[225] 0 #[δ (some ⟨A,i,none⟩) 1 c]).run prog w= .ok (.tuple #[]) (w.setCell ⟨A,i,none⟩ (δ none 0 0)):=by
 have H:=Mn w;unfold Builtin.clear_;simp[run_underlying underlying225,H,Value.cells,Builtin.zeroCells,storeCells,Addr.add,d,G,go_sem]
theorem VZ: ∀(css:List (List Value)) (i:Nat) (z:Value),(∀c∈css,c.length=1)->css.flatten.set i z=(css.set i [z]).flatten
 | [],i,z,_=>by simp
 | c::css,0,z,h=>by
  obtain⟨x,rfl⟩:=List.length_eq_one_iff.1 (h c η);simp
 | c::css,i+1,z,h=>by
  obtain⟨x,rfl⟩:=List.length_eq_one_iff.1 (h c η);simp[VZ css i z (λc d=>h c (by simp[d]))]
section
variable {w:World} {R A room first:Nat} {q:List (List Value)} {ci co cd cg:Int} {css:List (List Value)}
abbrev zT:=qO 1 229 35
theorem qO.cellY (h:zT w R A room first q ci co cd cg css) {i:Nat} (hi:i<room): ∃v,css.getD i []=[v]/\w.cell? ⟨A,i,none⟩=some v:=by
 have G:i<css.length:=by rw[h.len];exact hi
 have d:css.getD i []=css[i]:=by simp[G]
 obtain⟨v,H⟩:=List.length_eq_one_iff.1 (h.cl css[i] (List.getElem_mem G));refine⟨v,by rw[d];exact H, ?_⟩;have:=h.range hi 0 v (by rw[d,H];rfl)
 simpa using this
theorem qO.setY (h:zT w R A room first q ci co cd cg css) (i:Nat) (z:Value):(w.setCell ⟨A,i,none⟩ z).heap[A]? =some (.cells (css.set i [z]).flatten.toArray 35 (0,0)):=by
 refine qA (qo h.row i z) ?_;rw[<-VZ css i z h.cl];simp
theorem Oa (h:zT w R A room first q ci co cd cg css):
  Calls prog 66 #[γ R] w λe w'=>e= .returned (ι q.length)/\w'=w:=by
 have d:w.cell? ⟨R,2,none⟩=some (ι q.length):=qb h.ring 2 rfl;clear h
 go_enter func66,ntmps66
 go_wp2;go_ret;exact⟨rfl,rfl⟩
theorem Ic (h:zT w R A room first q ci co cd cg css):
  Calls prog 139 #[γ R] w λe w'=>e= .returned (μ (decide (q.length=room)))/\ ∃k,w'=w.drewN k:=by
 have H:w.cell? ⟨R,0,none⟩=some (δ (some ⟨A,0,none⟩) room room):=qb h.ring 0 rfl;have I:w.cell? ⟨R,2,none⟩=some (ι q.length):=qb h.ring 2 rfl;have G:((q.length:Int)==(room:Int))=decide (q.length=room):=by by_cases e:q.length=room<;>simp[e];omega
 clear h
 go_enter func139,ntmps139
 go_wp2;refine wp_region_quiet_lit ξ ξ ?_
 repeat (go_big_quiet_step (fail))
 refine wpQuiet_nil ?_;intro _ d;obtain⟨nq,rfl⟩:=d;go_wp2;go_ret;exact⟨rfl,nq,rfl⟩
theorem Cr (m:Int) (d:m<1∨8<m) (w:World):
  Calls prog 40 #[ι m] w λe w'=>e= .returned (.tuple #[π none,ι 1])/\qa w w':=by
 go_enter func40,ntmps40
 go_wp2
 all_goals (refine bodyPost_ret (v:= .tuple #[π none,ι 1]) (by simp[results,results40,go_sem]) rfl ?_;exact⟨rfl,ρ⟩)
theorem mkY (n:Nat) (N:1<=n) (O:n<=8) (w:World):
  (Instr.makeSlice 225 (ι (n:Int)) (ι (n:Int))).run prog w= .ok (δ (some ⟨w.heap.size,0,none⟩) n n) (w.alloc (.cells (List.replicate n [δ none 0 0]).flatten.toArray 35)):=by
 obtain⟨J,hi,G,H,I⟩:=info_parts (P:=prog) (e:=35) (z:= δ none 0 0) (size:=1) (bytes:=24) ξ;have d:=run_make (P:=prog) w 225 35 J (δ none 0 0) underlying225 hi G .i64 .i64 n n τ τ (by rw[I];omega) τ;rw[d];simp only[Int.toNat_natCast,H];rw[YA _ 1 n rfl ζ];rfl
theorem ZT (m:Int) (n:Nat) (I:m=n) (d:1<=n) (G:n<=8) (w:World):
  Calls prog 40 #[ι m] w λe w'=>e= .returned (.tuple #[γ (w.heap.size+1),ι 0])/\zT w' (w.heap.size+1) w.heap.size n 0 [] 0 0 0 0 (List.replicate n [δ none 0 0])/\qa w w':=by
 subst I;have J:1<=(n:Int):=by omega
 go_enter func40,ntmps40
 have N:=mkY n d G;go_wp2;refine bodyPost_ret (v:= .tuple #[γ (w.heap.size+1),ι 0]) (by simp[results,results40,go_sem]) rfl ?_;refine⟨rfl, ?_,ρ⟩;exact⟨qB η,qq (qA (qk _ _) (by have:(List.replicate n [δ none 0 0]).flatten=List.replicate n (δ none 0 0):=η;rw[this];simp)) _,τ,η,λc H=>by rw[List.eq_of_mem_replicate H];exact⟨rfl,by simp[Value.oneCell']⟩,⟨d,G⟩,τ,η,λi hi=>by simp at hi⟩
theorem D7 (w:World) (R A room first:Nat) (ad:Option Addr) (af ae:Nat) (T:List (List Value)) (aa ab U Y:Int) (css:List (List Value)) (h:zT w R A room first ([δ ad af ae]::T) aa ab U Y css):
  Calls prog 140 #[γ R] w λe w'=>e= .returned (δ ad af ae)/\zT w' R A room ((first+1)%room) T aa ab U Y (css.set first [δ none 0 0])/\qg (RgB R A) w w':=by
 have d:=κ h;have av:w.cell? ⟨R,0,none⟩=some (δ (some ⟨A,0,none⟩) room room):=qb h.ring 0 rfl;have aw:w.cell? ⟨R,1,none⟩=some (ι first):=qb h.ring 1 rfl;obtain⟨v,J,a0⟩:=h.cellY h.fst;rw[h.head] at J;injection J with J
 subst J;have ao:=h.fst;have ap:(first:Int)<(room:Int):=by omega
 have aq:0<=(first:Int):=by omega
 have ar:=h.pos.1;have au:=h.pos.2;have I:R<w.heap.size:=ql h.ring;have H:=h.ne;clear h
 go_enter func140,ntmps140
 go_wp2;refine wp_region_quiet_lit ξ ξ ?_
 repeat (go_big_quiet_step (fail))
 refine wpQuiet_nil ?_;intro _ ak;obtain⟨nq,rfl⟩:=ak
 go_wp2_with fail
 have N: ∀x:qu (λb=>b=A) w,x.w'.cell? ⟨R,0,none⟩=some (δ (some ⟨A,0,none⟩) room room):=λx=>x.cell I H (qb d.o.ring 0 rfl)
 have O: ∀x:qu (λb=>b=A) w,x.w'.cell? ⟨R,1,none⟩=some (ι first):=λx=>x.cell I H (qb d.o.ring 1 rfl)
 refine QN (λb=>b=A) w 15 15 [14] ?_
 refine EC ?_
 refine jJ rfl rfl ?_;intro K G;have aj:=Lv (w.drewN (nq+1)) A first (room-first) _ a0 (qd d.o.row first)
 unfold jl;go_simp;refine⟨qi σ,G _ _ ?_⟩;clear G K aj N O;refine qv ?_
 go_wp2_with fail
 have N: ∀x:qu (λb=>b=A) w,x.w'.cell? ⟨R,0,none⟩=some (δ (some ⟨A,0,none⟩) room room):=λx=>x.cell I H (qb d.o.ring 0 rfl)
 have O: ∀x:qu (λb=>b=A) w,x.w'.cell? ⟨R,1,none⟩=some (ι first):=λx=>x.cell I H (qb d.o.ring 1 rfl)
 refine QN (λb=>b=A) w 14 15 [12,14] ?_
 refine Mj ?_
 (refine Ql ?_;intro K G)
 refine⟨qi σ,G _ _ ?_⟩;clear G K
 refine Qs1 ?_
 have ac: ¬A=R:=λe=>H e.symm
 have al:w.frozen? ⟨R,1,none⟩=false:=qd d.o.ring 1;have am:w.frozen? ⟨R,2,none⟩=false:=qd d.o.ring 2;have ax:w.cell? ⟨R,2,none⟩=some (ι (T.length+1)):=qb d.o.ring 2 (by simp[jR])
 (refine Qe ?_;intro K G)
 refine G _ _ ?_;clear G K;refine qv ?_;have an:(T.length:Int)<=8:=by have:=d.o.fits;simp at this;omega
 go_wp2;go_ret;refine⟨rfl, ?_,σ⟩;have ag:((first:Int)+1)%(room:Int)=(((first+1)%room:Nat):Int):=by rw[Int.natCast_emod];rfl
 rw[ag];have ah:=qm (qn d.o.ring (nq+1)) ⟨A,first,none⟩ (δ none 0 0) H;have ai:=(d.o.more (qa.drewN w (nq+1))).setY first (δ none 0 0)
 refine d.o.took ⟨rfl,by simp[Value.oneCell']⟩ (qA (qo (qo (qn ah 1) 1 _) 2 _) ?_) (qm (qm (qn ai 1) _ _ ac) _ _ ac);simp[jR]
theorem NT (w:World) (R A room first:Nat) (d:Option Addr) (H G:Nat) (T:List (List Value)) (N O I J:Int) (css:List (List Value)) (h:zT w R A room first ([δ d H G]::T) N O I J css):
  Calls prog 128 #[γ R] w λe w'=>e= .returned (.tuple #[δ d H G,true])/\(∃co',zT w' R A room ((first+1)%room) T N co' I J (css.set first [δ none 0 0]))/\qg (RgB R A) w w':=by
 have aa:=κ h;have ad:((([δ d H G]::T).length:Int)==0)=false:=by simp;omega
 have ae:w.cell? ⟨R,2,none⟩=some (ι ([δ d H G]::T).length):=qb h.ring 2 rfl;have af:w.cell? ⟨R,5,none⟩=some (ι O):=qb h.ring 5 rfl;have ac:w.frozen? ⟨R,5,none⟩=false:=qd h.ring 5;clear h
 go_enter func128,ntmps128
 go_wp2_with (go_at_call 140;(go_call D7 _ R A room first d H G T N _ I J css (aa.o.popped _) as e w5 ⟨rfl,U,a5⟩;have ab:=κ U;have Y:Hid (qg (RgB R A) w w5):=κ (((qg.refl _ _).set (Or.inl rfl) _).trans a5);clear U a5))
 refine bodyPost_ret (v:= .tuple #[δ d H G,true]) (by simp[results,results128,go_sem]) rfl ?_;exact⟨rfl,⟨_,ab.o⟩,Y.o⟩
end
end Go.Proofs.YtlmllmonabafjaaGreatDoor
