/- x -/
import Derived.Test.YtlmllmonabafjaaGreatDoorMh3
namespace Go.Proofs.YtlmllmonabafjaaGreatDoor
open Option renaming some->ϊ,none->ϋ
open Bool renaming true->ό,false->ύ
open Go.Value renaming bool->μ,slice->δ,pointer->π,agg->θ
open Go.IntKind renaming i64->ι,u8->υ,u16->φ,u32->ω,i32->χ,u64->ψ
open _root_.Go.Proofs.Tryz
set_option linter.all false
set_option maxHeartbeats 8000000
open Go.RowKit
set_option maxRecDepth 100000
variable {q:List (List Value)} {w:World} {l:List (Int×List Int)} {D:Nat->Prop} {v:Value}
def QU {P:Program} {C:World->Prop} {l:List Oper} {T:Nat} {Q:Act->World->Prop} {k:Nat} {o:Oper} {t:Tr} {a:Act} (Y:l[k]? =ϊ o) (I:Region.wanted o (yielded l.toArray a.tmps)=ό) (M:C w)
  (d:TypeId) (x:Operand) (aa:o.op= .load d x) (b J:Nat) (ac:a.eval x= π (ϊ ⟨b,J,ϋ⟩)) (cs:List Value) (H:TypeDesc) (O: ∀w,C w->w.rangeAt b J cs)
  (ab:P.underlying d=ϊ H) (U:H.isRow=ό) (hi:(P.info? d).map (·.size)=ϊ cs.length)
  (h: ∀K:Act->Prop,(∀a,zk P l.toArray T C Q t a w->K a)->K (a.put o.dst (θ cs.toArray))):zk P l.toArray T C Q (.op k ύ t) a w:=
 qH Y I M λK N=>⟨θ cs.toArray,λw I=>by
  unfold Oper.quietAt execOp;simp only[aa,ac,Instr.loadAt,Instr.sureAddr,Sem.run_bind,Sem.run_pure,Result.andThen_ok,run_loadVar_mid w b J d cs H (O w I) ab U hi]
  exact⟨rfl,rfl⟩,h K N⟩
def AH (c t n:Int) (k:Bool) (w:World):Calls prog 198 #[θ #[ι c,ι t],ι n,k] w λe w'=>e= .returned (.tuple #[θ #[ι (xJ c t n k).1,ι t],ι (xJ c t n k).2.1,μ (xJ c t n k).2.2])/\ql w w':=by
 by_cases h1:n=c
 ·have e:xJ c t n k=(c,0,ύ):=by unfold xJ;rw[ϐ h1]
  rw[e];exact Uo c t n k (by simp[h1]) (by simp[h1]) w
 ·by_cases h2:n=t
  ·cases k with
   | true=>
    have e:xJ c t n ό=(n,0,ό):=by unfold xJ;rw[ώ h1,ϐ h2,ϐ rfl]
    rw[e];exact Up c t n ό (by simp[h1]) (by simp[h2]) rfl w
   | false=>
    have e:xJ c t n ύ=(c,5,ύ):=by unfold xJ;rw[ώ h1,ϐ h2,ώ ζ]
    rw[e];exact V9 c t n ύ (by simp[h1]) (by simp[h1]) (by simp[h2]) rfl w
  ·have e:xJ c t n k=(c,4,ύ):=by unfold xJ;rw[ώ h1,ώ h2]
   rw[e];exact AG c t n k (by simp[h1]) (by simp[h1]) (by simp[h2]) w
section
variable {N:Nat->Prop} {w w':World} {k:LnB} {vo:Value} {s s':LnS}
def Y3 (h:LnX N w k vo s) (H:vC s 1=ύ):Calls prog 137 #[γ k.L] w λe w'=>e= .returned (.tuple #[ι 0,ι 0,ύ])/\ql w w':=by
 have d:=YA h;rw[H] at d;have d:=κ d;clear H h
 go_enter func137,ntmps137
 go_wp2_with (go_at_call 74;(go_call d.o as e w1 ⟨rfl,I⟩;have J:=κ I;clear I))
 refine bodyPost_ret (v:= .tuple #[ι 0,ι 0,ύ]) (by simp[results,results137,go_sem]) rfl ?_;exact⟨rfl,J.o⟩
def Zn (h:LnX N w k vo s) (be:vC s 1=ό) (x:ItS) (T:List ItS) (bQ:s.A=x::T) (ae f:Int) (ao:Bool) (bw:xJ s.cur s.tgt x.layer x.key=(ae,f,ao)) (z:Bool) (cn:(f==0)=z):
  Calls prog 137 #[γ k.L] w λe w'=>e= .returned (.tuple #[ι x.id,ι f,ό])/\LnX (xf N w w') w' k vo {s with A:=T,cur:=ae,B:=if z then s.B++[(x,ao)] else s.B}/\jt N w w':=by
 have I:=κ h;have aC:=YA h;rw[be] at aC;have aC:=κ aC;have av:=AH s.cur s.tgt x.layer x.key;rw[bw] at av;have av:=κ av;have cj:s.B.length<s.room:=by
  have:=h.r2.fit.1;have bP:(decide (0<s.A.length)&&decide (¬s.B.length=s.room))=ό:=be;simp at bP;omega
 obtain⟨ax,co,aW,bK,aU,aV,bL,bd,aT⟩:=h.r1;rw[bQ] at aT;obtain⟨c,q,rfl,aE,bo⟩:=aT.uncons;have AQ:=κ bo;obtain⟨cq,cp,vp,rfl,⟨⟨os,ai,rfl,_⟩,⟨aj,ke,rfl,_⟩,⟨ak,ah,rfl,_⟩⟩,_,_⟩:=aE.read;unfold itC at aE bd;have bC:=κ aE;have bF:=κ bd;have ad:=κ h.dist;clear h be bw bd aE bo aT
 go_enter func137,ntmps137
 go_wp2_with (first | (go_at_call 74;(go_call aC.o as e w1 ⟨rfl,az⟩;have bH:=κ az;have bh:=κ (qq az I.o.blk);have cu:Hid (w.heap.size<=w1.heap.size):=κ az.size;have bE:=κ (bF.o.more az);clear az;have c1:w1.cell? ⟨k.L,1,ϋ⟩=ϊ (π (ϊ ⟨k.R1,0,ϋ⟩)):=qm bh.o 1 rfl)) | (go_at_call 197;(go_call Nb w1 k.R1 k.A1 s.room ax _ q aW bK aU aV bL bE.o as e w2 ⟨rfl,⟨aX,ag⟩,af⟩;have bk:=κ ag;have A2:Hid (jt (RgB k.R1 k.A1) w w2):=κ ((jt.of_more bH.o).trans af);have bi:Hid (w2.heap[k.L]? =ϊ (.cells (jQ k vo s) 153 (0,0))):=κ (af.blk bh.o (by obtain⟨⟨Y,ac,_⟩,_⟩:=ad.o;rintro(e | e)<;>omega));clear ag af)))
 obtain⟨M,aL⟩:=ν ((w2.alloc (.cells (Γj x os ai aj ke ak ah) 253)));have aw:Hid (ql w2 M):=κ (by rw[<-aL];exact ql.alloc _ _);have aQ:Hid (M.heap[w2.heap.size]? =ϊ (.cells (Γj x os ai aj ke ak ah) 253 (0,0))):=κ (by rw[<-aL];exact qj w2 _);have aO:=κ (qq aw.o bi.o);rw[aL];clear aL
 go_cut [7,8,9] from 21 (λcb cc cd bA=> ∃C,cb= γ C/\cc= ι f/\cd= μ ao/\ql M bA/\bA.heap[C]? =ϊ (.cells #[ι ae,ι s.tgt] 103 (0,0))/\M.heap.size<=C)
 case first=>
  have bG: ∀x:qt M,x.w'.rangeAt k.L 5 [ι s.cur,ι s.tgt]:=λx j v O=>by
   have d:=qq x.h aO.o
   match j,O with
   | 0,O=>exact qm d 5 O
   | 1,O=>exact qm d 6 O
  have ce: ∀y:qt M,y.w'.cell? ⟨w2.heap.size,1,ϋ⟩=ϊ (ι x.layer):=λy=>qm (qq y.h aQ.o) 1 rfl
  have bm: ∀y:qt M,y.w'.cell? ⟨w2.heap.size,2,ϋ⟩=ϊ (μ x.key):=λy=>qm (qq y.h aQ.o) 2 rfl
  refine zB M 17 (.op 0 ύ (.op 1 ύ (.op 2 ύ (.op 3 ύ (.op 4 ύ (.op 5 ύ (.op 6 ύ (.op 7 ύ (.br [8,13] λk=>if k=8 then .op 9 ύ (.op 10 ύ (.op 11 ύ (.op 12 ύ (.op 13 ό (.op 14 ό (.op 15 ύ (.op 16 ύ (.done)))))))) else .op 8 ό (.op 9 ύ (.op 10 ύ (.op 11 ύ (.op 12 ύ (.op 14 ό (.op 15 ύ (.op 16 ύ (.done))))))))))))))))) ξ ξ ?_
  iterate 3 (refine qH rfl rfl (qk ρ) ?_;intro K H;go_big_quiet_op;go_big_quiet_on)
  refine QU rfl rfl (qk ρ) 103 (.tmp 24) rfl k.L 5 rfl [ι s.cur,ι s.tgt] _ (λw' bf=>by obtain⟨y,rfl⟩:=bf;exact bG y) underlying103 rfl ξ ?_;intro K H;go_simp;refine H _ ?_;clear H K
  repeat (first | (refine jg rfl rfl (qk ρ) ?_) | (refine qH rfl rfl (qk ρ) ?_;intro K H;go_big_quiet_op;go_big_quiet_on))
  refine wP ζ ?_ ?_
  ·(refine qO rfl rfl ?_;intro K H;unfold jn;go_simp)
   go_call av.o _ as e w5 ⟨rfl,ap⟩;have J:Hid (ql M w5):=κ ((ql.drewN _ 1).trans ap);clear ap;refine⟨_,rfl,qk J.o,H _ _ ?_⟩;clear H K
   repeat (first | (refine jg rfl rfl (qk J.o) ?_) | (refine qH rfl rfl (qk J.o) ?_;intro K H;go_big_quiet_op;go_big_quiet_on))
   (refine qO rfl rfl ?_;intro K H;unfold jn;go_simp)
   refine⟨qk (J.o.al _),H _ _ ?_⟩;clear H K
   (refine qO rfl rfl ?_;intro K H;unfold jn;go_simp)
   refine⟨qk (by repeat (first | exact J.o.al _ | refine ql.st ?_ (by have:=J.o.size;simp;omega) _)),H _ _ ?_⟩;clear H K
   repeat (first | (refine jg rfl rfl (qk (by repeat (first | exact J.o.al _ | refine ql.st ?_ (by have:=J.o.size;simp;omega) _))) ?_) | (refine qH rfl rfl (qk (by repeat (first | exact J.o.al _ | refine ql.st ?_ (by have:=J.o.size;simp;omega) _))) ?_;intro K H;go_big_quiet_op;go_big_quiet_on))
   refine zg ?_;go_wp2;go_meet;exact⟨_,rfl,rfl,rfl,J.o.al _,qj w5 _,J.o.size⟩
  ·(refine qO rfl rfl ?_;intro K H;unfold jn;go_simp)
   refine⟨qk ρ,H _ _ ?_⟩;clear H K
   (refine qO rfl rfl ?_;intro K H;unfold jn;go_simp)
   go_call av.o _ as e w5 ⟨rfl,ap⟩;have J:Hid (ql M w5):=κ (((ql.drewN _ 1).al _).trans ap);have au:Hid (w5.heap[M.heap.size]? =ϊ (.cells #[ι 0,ι 0] 103 (0,0))):=κ (qq ap (qC rfl));clear ap;have bM:w5.cell? ⟨M.heap.size,0,ϋ⟩=ϊ (ι 0):=qm au.o 0 rfl;have Y:w5.cell? ⟨M.heap.size,1,ϋ⟩=ϊ (ι 0):=qm au.o 1 rfl;have e0:w5.frozen? ⟨M.heap.size,0,ϋ⟩=ύ:=yw au.o 0;have aH:w5.frozen? ⟨M.heap.size,1,ϋ⟩=ύ:=yw au.o 1;refine⟨_,rfl,qk J.o,H _ _ ?_⟩;clear H K
   repeat (first | (refine jg rfl rfl (qk J.o) ?_) | (refine qH rfl rfl (qk J.o) ?_;intro K H;go_big_quiet_op;go_big_quiet_on))
   (refine qO rfl rfl ?_;intro K H;unfold jn;go_simp)
   refine⟨qk ((J.o.st (ϔ _) _).st (ϔ _) _),H _ _ ?_⟩;clear H K
   repeat (first | (refine jg rfl rfl (qk ((J.o.st (ϔ _) _).st (ϔ _) _)) ?_) | (refine qH rfl rfl (qk ((J.o.st (ϔ _) _).st (ϔ _) _)) ?_;intro K H;go_big_quiet_op;go_big_quiet_on))
   refine zg ?_;go_wp2;go_meet;exact⟨_,rfl,rfl,rfl,(J.o.st (ϔ _) _).st (ϔ _) _,qB (qp (qp au.o 0 _) 1 _) rfl,ϔ _⟩
 case rest=>
 obtain⟨C,rfl,rfl,rfl,aN,bu,ck⟩:=hcut;have aD:=κ aN;have bj:=κ bu;have an:=κ (qq aN aO.o);have aS:=κ (qq aN aQ.o);clear aN bu;have cl:k.L<C:=by have:=qn aO.o;omega
 have bM:wc.cell? ⟨C,0,ϋ⟩=ϊ (ι ae):=qm bj.o 0 rfl;have Y:wc.cell? ⟨C,1,ϋ⟩=ϊ (ι s.tgt):=qm bj.o 1 rfl;have c5:wc.cell? ⟨k.L,5,ϋ⟩=ϊ (ι s.cur):=qm an.o 5 rfl;have cf:wc.cell? ⟨k.L,6,ϋ⟩=ϊ (ι s.tgt):=qm an.o 6 rfl;have aI:wc.frozen? ⟨k.L,5,ϋ⟩=ύ:=yw an.o 5;have ch:wc.frozen? ⟨k.L,6,ϋ⟩=ύ:=yw an.o 6;have cr:wc.cell? ⟨w2.heap.size,0,ϋ⟩=ϊ (ι x.id):=qm aS.o 0 rfl;have aM: ¬w2.heap.size=k.L:=by have:=qn bi.o;omega
 cases z
 ·go_wp2;refine bodyPost_ret (v:= .tuple #[ι x.id,ι f,ό]) (by simp[results,results137,go_sem]) rfl ?_;obtain⟨W6,U⟩:=ν ((wc.setCell ⟨k.L,5,ϋ⟩ (ι ae)).setCell ⟨k.L,6,ϋ⟩ (ι s.tgt));have aA:Hid (jt (λb=>b=k.L∨RgB k.R1 k.A1 b) w W6):=κ (by rw[<-U];exact((((A2.o.mono (S':=λb=>b=k.L∨RgB k.R1 k.A1 b) λb d=>ϕ d).more (aw.o.trans aD.o)).set (p:=⟨k.L,5,ϋ⟩) (ϑ rfl) _).set (p:=⟨k.L,6,ϋ⟩) (ϑ rfl) _));have aB:Hid (W6.heap[k.L]? =ϊ (.cells (jQ k vo {s with A:=T,cur:=ae}) 153 (0,0))):=κ (by rw[<-U];exact qB (qp (qp an.o 5 _) 6 _) rfl);have aR:Hid (W6.heap[w2.heap.size]? =ϊ (.cells (Γj x os ai aj ke ak ah) 253 (0,0))):=κ (by rw[<-U];exact qo (qo aS.o ⟨k.L,5,ϋ⟩ _ aM) ⟨k.L,6,ϋ⟩ _ aM)
  have aP:Hid (qN 13 327 253 W6 k.R1 k.A1 s.room ((ax+1)%s.room) q aW _ aU aV _):=κ (by
   obtain⟨⟨Y,ac,_⟩,_⟩:=ad.o;rw[<-U]
   exact((bk.o.more (aw.o.trans aD.o)).away (S:=λb=>b=k.L) (((jt.refl (λb=>b=k.L) wc).set (p:=⟨k.L,5,ϋ⟩) rfl _).set (p:=⟨k.L,6,ϋ⟩) rfl _) (C4 Y) (C4 ac)))
  rw[U];clear U;have am:jt (λb=>b=k.L∨RgB k.R1 k.A1 b) w W6:=aA.o;obtain⟨⟨Y,ac,aF,aG,aY,aZ⟩,⟨aH,ba,bb,bc,aI⟩,⟨bS,bT,bU,bV⟩,⟨bW,bX,bY⟩,⟨bZ,ca⟩,_⟩:=ad.o;have ab:jt k.muts w W6:=am.mono λb d=>by rcases d with e | e;exact ϑ e;exact ϕ (ϑ e)
  have ar:jt (lnM k vo) w W6:=ab.mono λb d=>ϑ d
  have O: ∀b,vo.ownBlock=ϊ b->vo.ownBlock=ϊ b∨w.heap.size<=b:=λb d=>ϑ d
  have aK: ∀b,(λb=>b=k.L∨RgB k.R1 k.A1 b) b->lnE N k vo b:=λb d=>kZ (by rcases d with e | e;exact ϑ e;exact ϕ (ϑ e))
  have aa:=I.o.ok;exact⟨rfl,I.o.make ab.size aB.o ⟨_,_,_,_,_,_,_,aP.o,AQ.o.mono λc y ay=>I.o.held ay ar O⟩ (I.o.r2.step am (by rintro(e | e | e)<;>omega) (by rintro(e | e | e)<;>omega) aK λb d=>ϑ (xE I.o.own O d)) (I.o.r3.step am (by rintro(e | e | e)<;>omega) (by rintro(e | e | e)<;>omega) aK λb d=>ϑ (xE I.o.own O d)) (I.o.rows ab) ⟨aa.most,aa.row,aa.lt,aa.sq,aa.src⟩,ab.mono λb d=>I.o.muts b d⟩
 ·go_wp2;obtain⟨W6,U⟩:=ν ((wc.setCell ⟨k.L,5,ϋ⟩ (ι ae)).setCell ⟨k.L,6,ϋ⟩ (ι s.tgt));have aA:Hid (jt (λb=>b=k.L∨RgB k.R1 k.A1 b) w W6):=κ (by rw[<-U];exact((((A2.o.mono (S':=λb=>b=k.L∨RgB k.R1 k.A1 b) λb d=>ϕ d).more (aw.o.trans aD.o)).set (p:=⟨k.L,5,ϋ⟩) (ϑ rfl) _).set (p:=⟨k.L,6,ϋ⟩) (ϑ rfl) _));have aB:Hid (W6.heap[k.L]? =ϊ (.cells (jQ k vo {s with A:=T,cur:=ae,B:=s.B++[(x,ao)]}) 153 (0,0))):=κ (by rw[<-U];exact qB (qp (qp an.o 5 _) 6 _) rfl);have aR:Hid (W6.heap[w2.heap.size]? =ϊ (.cells (Γj x os ai aj ke ak ah) 253 (0,0))):=κ (by rw[<-U];exact qo (qo aS.o ⟨k.L,5,ϋ⟩ _ aM) ⟨k.L,6,ϋ⟩ _ aM)
  have aP:Hid (qN 13 327 253 W6 k.R1 k.A1 s.room ((ax+1)%s.room) q aW _ aU aV _):=κ (by
   obtain⟨⟨Y,ac,_⟩,_⟩:=ad.o;rw[<-U]
   exact((bk.o.more (aw.o.trans aD.o)).away (S:=λb=>b=k.L) (((jt.refl (λb=>b=k.L) wc).set (p:=⟨k.L,5,ϋ⟩) rfl _).set (p:=⟨k.L,6,ϋ⟩) rfl _) (C4 Y) (C4 ac)))
  rw[U];clear U;obtain⟨aJ,bg,bs,aX,bp,bq,bt,ag,af⟩:=I.o.r2;have bB:=κ af;have bR:bg.length<s.room:=by have:=af.len;omega
  have R2:Hid (qN 14 330 255 W6 k.R2 k.A2 s.room aJ bg bs aX bp bq bt):=κ (ag.away aA.o (by obtain⟨⟨Y,ac,aF,aG,aY,aZ⟩,⟨aH,ba,bb,bc,aI⟩,⟨ax,aJ,bN,bO⟩,_⟩:=ad.o;rintro(e | e | e)<;>omega) (by obtain⟨⟨Y,ac,aF,aG,aY,aZ⟩,⟨aH,ba,bb,bc,aI⟩,⟨ax,aJ,bN,bO⟩,_⟩:=ad.o;rintro(e | e | e)<;>omega));have cm:k.R2<w.heap.size:=qn ag.ring;have ci:k.A2<w.heap.size:=qn ag.row;have cv:w.heap.size<=w2.heap.size:=A2.o.size;clear ag af;have bx: ¬RgB k.R2 k.A2 k.L:=by
   obtain⟨⟨Y,ac,aF,aG,_⟩,_⟩:=ad.o;rintro(e | e)<;>omega
  have bz: ¬RgB k.R2 k.A2 w2.heap.size:=by rintro(e | e)<;>omega
  have bm: ∀y:qz (RgB k.R2 k.A2) W6,y.w'.cell? ⟨k.L,2,ϋ⟩=ϊ (π (ϊ ⟨k.R2,0,ϋ⟩)):=λy=>qm (y.h.blk aB.o bx) 2 rfl
  have bl: ∀y:qz (RgB k.R2 k.A2) W6,y.w'.rangeAt w2.heap.size 0 (Γj x os ai aj ke ak ah):=λy=>xy (y.h.blk aR.o bz)
  refine QN (RgB k.R2 k.A2) W6 8 8 [7] ?_
  refine Qs4 ?_
  refine jh rfl rfl (qi σ) 253 (.tmp 5) rfl w2.heap.size 0 rfl (Γj x os ai aj ke ak ah) _ (λw' bf=>by obtain⟨y,rfl⟩:=bf;exact bl y) underlying253 rfl ξ ?_;intro K H;go_simp;refine H _ ?_;clear H K
  refine Qs2 ?_
  (refine Ql ?_;intro K H)
  go_call UH _ k.R2 k.A2 s.room aJ bg bs aX bp bq bt (R2.o.more (ql.drewN W6 1)) bR (Γk x os ai aj ke ak ah ao) ⟨rfl,by simp[Value.oneCell']⟩ as e w8 ⟨rfl,⟨cg,bv⟩,bn⟩;have bI:=κ bv;have aq:Hid (jt (RgB k.R2 k.A2) W6 w8):=κ (((jt.refl _ W6).drewN 1).trans bn);clear bv bn;refine⟨_,rfl,qi aq.o,H _ _ ?_⟩;clear H K bm bl;refine qA ?_;have bD:=κ (aq.o.blk aB.o bx);have bJ:=κ (aq.o.blk aR.o bz);have ct:w8.cell? ⟨w2.heap.size,0,ϋ⟩=ϊ (ι x.id):=qm bJ.o 0 rfl;go_wp2;refine bodyPost_ret (v:= .tuple #[ι x.id,ι f,ό]) (by simp[results,results137,go_sem]) rfl ?_;have am:jt (λb=>b=k.L∨RgB k.R1 k.A1 b∨RgB k.R2 k.A2 b) w w8:=(aA.o.mono λb d=>by rcases d with e | e;exact ϑ e;exact ϕ (ϑ e)).trans (aq.o.mono λb d=>ϕ (ϕ d));obtain⟨⟨Y,ac,aF,aG,aY,aZ⟩,⟨aH,ba,bb,bc,aI⟩,⟨bS,bT,bU,bV⟩,⟨bW,bX,bY⟩,⟨bZ,ca⟩,_⟩:=ad.o;have ab:jt k.muts w w8:=am.mono λb d=>by rcases d with e | e | e;exact ϑ e;exact ϕ (ϑ e);exact ϕ (ϕ (ϑ e))
  have ar:jt (lnM k vo) w w8:=ab.mono λb d=>ϑ d
  have O: ∀b,vo.ownBlock=ϊ b->vo.ownBlock=ϊ b∨w.heap.size<=b:=λb d=>ϑ d
  have aK: ∀b,(λb=>b=k.L∨RgB k.R1 k.A1 b∨RgB k.R2 k.A2 b) b->lnE N k vo b:=λb d=>kZ (by rcases d with e | e | e;exact ϑ e;exact ϕ (ϑ e);exact ϕ (ϕ (ϑ e)))
  have aa:=I.o.ok;exact⟨rfl,I.o.make ab.size bD.o ⟨_,_,_,_,_,_,_,aP.o.away aq.o Y5 Y5,AQ.o.mono λc y ay=>I.o.held ay ar O⟩ ⟨_,_,_,_,_,_,_,bI.o,(bB.o.mono λc y ay=>I.o.held ay ar O).snoc (I.o.held (jw.chosen ao bC.o) ar O)⟩ (I.o.r3.step am (by rintro(e | (e | e) | (e | e))<;>omega) (by rintro(e | (e | e) | (e | e))<;>omega) aK λb d=>ϑ (xE I.o.own O d)) (I.o.rows ab) ⟨aa.most,aa.row,aa.lt,aa.sq,aa.src⟩,ab.mono λb d=>I.o.muts b d⟩
def De (h:LnX N w k vo s):Calls prog 137 #[γ k.L] w λe w'=>e= .returned (.tuple #[ι (jf s).2.1,ι (jf s).2.2.1,μ (jf s).2.2.2])/\LnX (xf N w w') w' k vo (jf s).1/\jt N w w':=by
 cases hm:vC s 1 with
 | false=>
  have e:jf s=(s,0,0,ύ):=by unfold jf;rw[ϐ hm]
  rw[e];refine(Y3 h hm).mono ?_;rintro e w' ⟨rfl,m⟩;exact⟨rfl,h.grow m,jt.of_more m⟩
 | true=>
  cases hA:s.A with
  | nil=>
   have:(decide (0<s.A.length)&&decide (¬s.B.length=s.room))=ό:=hm;rw[hA] at this;simp at this
  | cons x T=>
   have e:jf s=({s with A:=T,cur:=(xJ s.cur s.tgt x.layer x.key).1,B:=if (xJ s.cur s.tgt x.layer x.key).2.1=0 then s.B++[(x,(xJ s.cur s.tgt x.layer x.key).2.2)] else s.B},x.id,(xJ s.cur s.tgt x.layer x.key).2.1,ό):=by
    unfold jf;rw[ώ (by rw[hm];decide),hA]
   rw[e];rcases ht:xJ s.cur s.tgt x.layer x.key with ⟨d,f,H⟩
   simp only;have:=Zn h hm x T hA d f H ht (f==0) rfl
   simpa using this
end
def Jz (n s:Int):Byt (qy n s):=by
 unfold qy;split
 ·exact JF _ _
 ·exact xh
def Ix (l:List Int):Byt (ssB l):=by
 induction l with
 | nil=>exact xh
 | cons x l ih=>exact zZ (Jz _ _) ih
def EM {p:Pk} (h:uf p):Byt (DB p):=by
 unfold DB CV Hz;refine zZ (zZ (zZ (zZ (zZ (zZ ?_ ?_) ?_) ?_) ?_) (Ix _)) ?_
 all_goals try exact Jz _ _
 split
 ·exact zZ (zZ (Jz _ _) (Jz _ _)) h.ex
 ·exact xh
def Iy {p:Pk} (h:uf p):Byt (pkB p):=zZ (EM h) h.pl
def jt.setNew {S:Nat->Prop} {a b:World} (h:jt S a b) {p:Addr} (I:a.heap.size<=p.block) (v:Value):jt S a (b.setCell p v):=
 ⟨h.os,h.tape,h.output,by simpa [World.setCell] using h.size,λk d H=>by rw[Below.heap_setCell _ _ _ _ (λe=>by omega)];exact h.block k d H⟩
def Vg {base e size n b:Nat} {xs:List Value} (h:w.ownsRow base e size v n xs) (d:v.ownBlock=ϊ b):b<w.heap.size:=by
 rcases h.2 with ⟨rfl,_⟩ | ⟨g,cap,cur,rfl,_,H,_⟩
 ·cases d
 ·obtain rfl:g=b:=by injection d
  exact lt_of_block H
def vE (room:Nat) (q:List (List Value)) (x:List Value):List (List Value):=if q.length<room then q++[x] else q.tail++[x]
def Pc (ae:World) (R A room f:Nat) (q:List (List Value)) (N J M I:Int) (css:List (List Value)) (ab:qN 2 332 56 ae R A room f q N J M I css)
  (ad: ∀c∈q,∃i H n d,c=[ι i,δ H n d]) (x:List Value) (ac:x.length=2/\ ∀u∈x,u.oneCell'=ό):
  ∃old H n d,(old=if q.length<room then 0 else (q.head?.map idN).getD 0)/\
  ∀w,qN 2 332 56 w R A room f q N J M I css->Calls prog 202 #[γ R,θ x.toArray] w λe w'=>e= .returned (.tuple #[θ #[ι old,δ H n d],(decide (¬q.length<room)),ι 0])/\
   (∃f' O aa css',qN 2 332 56 w' R A room f' (vE room q x) O J aa I css')/\jt (RgB R A) w w':=by
 by_cases hq:q.length<room
 ·refine⟨0,ϋ,0,0,by rw[ϐ hq],λw h=> ?_⟩;have U:decide (¬q.length<room)=ύ:=by simp[hq]
  have Y:vE room q x=q++[x]:=by unfold vE;rw[ϐ hq]
  rw[U,Y];refine(UD w R A room f q N J M I css h hq x ac).mono ?_;rintro e w' ⟨rfl,⟨O,g⟩,a⟩;exact⟨rfl,⟨_,_,_,_,g⟩,a⟩
 ·have af:=ab.fits;have ag:=ab.pos;cases q with
  | nil=>simp at hq;omega
  | cons c T=>
   obtain⟨i,H,n,d,rfl⟩:=ad c η;refine⟨i,H,n,d,by rw[ώ hq];rfl,λw h=> ?_⟩;have U:decide (¬([ι i,δ H n d]::T).length<room)=ό:=by simpa using hq
   have Y:vE room ([ι i,δ H n d]::T) x=T++[x]:=by unfold vE;rw[ώ hq];rfl
   rw[U,Y];refine(UE w R A room f [ι i,δ H n d] T N J M I css h τ x ac).mono ?_;rintro e w' ⟨rfl,⟨O,aa,g⟩,a⟩;exact⟨rfl,⟨_,_,_,_,g⟩,a⟩
def zb.tl {α β:Type} {p:α->β->Prop} {l:List α} {m:List β} (h:zb p l m):zb p l.tail m.tail:=by
 cases l with
 | nil=>cases m with
  | nil=>exact trivial
  | cons b m=>exact h.elim
 | cons a l=>cases m with
  | nil=>exact h.elim
  | cons b m=>exact h.2
def DY {α:Type} {R:qL α} {room:Nat} {l:List α} {c:List Value} {y:α} (a:zb (jw R D w) q l) (h:jw R D w c y):
  zb (jw R D w) (vE room q c) (if l.length<room then l++[y] else l.tail++[y]):=by
 unfold vE;rw[a.len];split
 ·exact a.snoc h
 ·exact a.tl.snoc h
section
variable {N:Nat->Prop} {w w':World} {k:LnB} {vo vo':Value} {s s':LnS}
def LnX.fresh (h:LnX N w k vo s) {H:IntKind} {l:List Int} (O:SlI H w' v l) (M: ∀b,v.ownBlock=ϊ b->w.heap.size<=b/\b<w'.heap.size) (U: ∀b,vo'.ownBlock=ϊ b->vo.ownBlock=ϊ b) {w'':World} (a:jt (lnE (xf N w w') k vo') w' w''):SlI H w'' v l:=by
 refine O.off (λb e d=> ?_) a;obtain⟨I,J⟩:=M b e;rcases d with d | d
 ·have:=h.own b (h.muts b (d (ϕ ⟨I,J⟩)));omega
 ·have:=h.own b (h.vob (U b d)).1;omega
def UJ (a:zb (jw ROu D w) q l): ∀c∈q,∃i H n d,c=[ι i,δ H n d]:=λc I=>by
 obtain⟨o,_,J⟩:=a.mem c I;obtain⟨v,rfl,⟨H,d,rfl,_⟩,_⟩:=J.read;exact⟨_,_,_,_,rfl⟩
def Pg (a:zb (jw ROu D w) q l):(q.head?.map idN).getD 0=(l.head?.map (·.1)).getD 0:=by
 cases l with
 | nil=>rw[a.nil_r];rfl
 | cons o l=>
  obtain⟨c,q',rfl,d,_⟩:=a.uncons;obtain⟨v,rfl,_⟩:=d.read;rfl
end
end Go.Proofs.YtlmllmonabafjaaGreatDoor
