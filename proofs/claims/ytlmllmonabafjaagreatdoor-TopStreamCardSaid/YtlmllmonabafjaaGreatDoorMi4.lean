/- x -/
import Derived.Test.YtlmllmonabafjaaGreatDoorMi3
namespace Go.Proofs.YtlmllmonabafjaaGreatDoor
open Option renaming some->ϊ,none->ϋ
open Bool renaming true->ό,false->ύ
open Go.Value renaming bool->μ,slice->δ,pointer->π,agg->θ
open Go.IntKind renaming i64->ι,u8->υ,u16->φ,u32->ω,i32->χ,u64->ψ
open _root_.Go.Proofs.Tryz
set_option linter.all false
set_option maxHeartbeats 8000000
open Go.RowKit
set_option maxRecDepth 100000
variable {q:List (List Value)} {w:World} {l:List (Int×List Int)} {D:Nat->Prop} {v:Value}
def QU {P:Program} {C:World->Prop} {l:List Oper} {T:Nat} {Q:Act->World->Prop} {k:Nat} {o:Oper} {t:Tr} {a:Act} (U:l[k]? =ϊ o) (H:Region.wanted o (yielded l.toArray a.tmps)=ό) (J:C w)
  (d:TypeId) (x:Operand) (Y:o.op= .load d x) (b I:Nat) (ab:a.eval x= π (ϊ ⟨b,I,ϋ⟩)) (cs:List Value) (G:TypeDesc) (N: ∀w,C w->w.rangeAt b I cs)
  (aa:P.underlying d=ϊ G) (O:G.isRow=ό) (hi:(P.info? d).map (·.size)=ϊ cs.length)
  (h: ∀K:Act->Prop,(∀a,zk P l.toArray T C Q t a w->K a)->K (a.put o.dst (θ cs.toArray))):zk P l.toArray T C Q (.op k ύ t) a w:=
 qH U H J λK M=>⟨θ cs.toArray,λw H=>by
  unfold Oper.quietAt execOp;simp only[Y,ab,Instr.loadAt,Instr.sureAddr,Sem.run_bind,Sem.run_pure,Result.andThen_ok,run_loadVar_mid w b I d cs G (N w H) aa O hi]
  exact⟨rfl,rfl⟩,h K M⟩
def AH (c t n:Int) (k:Bool) (w:World):Calls prog 198 #[θ #[ι c,ι t],ι n,k] w λe w'=>e= .returned (.tuple #[θ #[ι (xJ c t n k).1,ι t],ι (xJ c t n k).2.1,μ (xJ c t n k).2.2])/\ql w w':=by
 by_cases h1:n=c
 ·have e:xJ c t n k=(c,0,ύ):=by unfold xJ;rw[ϐ h1]
  rw[e];exact Uo c t n k (by simp[h1]) (by simp[h1]) w
 ·by_cases h2:n=t
  ·cases k with
   | true=>
    have e:xJ c t n ό=(n,0,ό):=by unfold xJ;rw[ώ h1,ϐ h2,ϐ rfl]
    rw[e];exact Up c t n ό (by simp[h1]) (by simp[h2]) rfl w
   | false=>
    have e:xJ c t n ύ=(c,5,ύ):=by unfold xJ;rw[ώ h1,ϐ h2,ώ ζ]
    rw[e];exact V9 c t n ύ (by simp[h1]) (by simp[h1]) (by simp[h2]) rfl w
  ·have e:xJ c t n k=(c,4,ύ):=by unfold xJ;rw[ώ h1,ώ h2]
   rw[e];exact AG c t n k (by simp[h1]) (by simp[h1]) (by simp[h2]) w
section
variable {N:Nat->Prop} {w w':World} {k:LnB} {vo:Value} {s s':LnS}
def Y3 (h:LnX N w k vo s) (G:vC s 1=ύ):Calls prog 137 #[γ k.L] w λe w'=>e= .returned (.tuple #[ι 0,ι 0,ύ])/\ql w w':=by
 have d:=YA h;rw[G] at d;have d:=κ d;clear G h
 go_enter func137,ntmps137
 go_wp2_with (go_at_call 74;(go_call d.o as e w1 ⟨rfl,H⟩;have I:=κ H;clear H))
 refine bodyPost_ret (v:= .tuple #[ι 0,ι 0,ύ]) (by simp[results,results137,go_sem]) rfl ?_;exact⟨rfl,I.o⟩
def Zn (h:LnX N w k vo s) (bd:vC s 1=ό) (x:ItS) (T:List ItS) (bP:s.A=x::T) (ad f:Int) (an:Bool) (bv:xJ s.cur s.tgt x.layer x.key=(ad,f,an)) (z:Bool) (cm:(f==0)=z):
  Calls prog 137 #[γ k.L] w λe w'=>e= .returned (.tuple #[ι x.id,ι f,ό])/\LnX (xf N w w') w' k vo {s with A:=T,cur:=ad,B:=if z then s.B++[(x,an)] else s.B}/\jt N w w':=by
 have H:=κ h;have aB:=YA h;rw[bd] at aB;have aB:=κ aB;have au:=AH s.cur s.tgt x.layer x.key;rw[bv] at au;have au:=κ au;have ci:s.B.length<s.room:=by
  have:=h.r2.fit.1;have bO:(decide (0<s.A.length)&&decide (¬s.B.length=s.room))=ό:=bd;simp at bO;omega
 obtain⟨aw,cn,aV,bJ,aT,aU,bK,bc,aS⟩:=h.r1;rw[bP] at aS;obtain⟨c,q,rfl,aD,bn⟩:=aS.uncons;have AQ:=κ bn;obtain⟨cp,co,vp,rfl,⟨⟨os,ah,rfl,_⟩,⟨ai,ke,rfl,_⟩,⟨aj,ag,rfl,_⟩⟩,_,_⟩:=aD.read;unfold itC at aD bc;have bB:=κ aD;have bE:=κ bc;have ac:=κ h.dist;clear h bd bv bc aD bn aS
 go_enter func137,ntmps137
 go_wp2_with (first | (go_at_call 74;(go_call aB.o as e w1 ⟨rfl,ay⟩;have bG:=κ ay;have bg:=κ (qq ay H.o.blk);have ct:Hid (w.heap.size<=w1.heap.size):=κ ay.size;have bD:=κ (bE.o.more ay);clear ay;have c1:w1.cell? ⟨k.L,1,ϋ⟩=ϊ (π (ϊ ⟨k.R1,0,ϋ⟩)):=qm bg.o 1 rfl)) | (go_at_call 197;(go_call Nb w1 k.R1 k.A1 s.room aw _ q aV bJ aT aU bK bD.o as e w2 ⟨rfl,⟨aW,af⟩,ae⟩;have bj:=κ af;have A2:Hid (jt (RgB k.R1 k.A1) w w2):=κ ((jt.of_more bG.o).trans ae);have bh:Hid (w2.heap[k.L]? =ϊ (.cells (jQ k vo s) 153 (0,0))):=κ (ae.blk bg.o (by obtain⟨⟨U,ab,_⟩,_⟩:=ac.o;rintro(e | e)<;>omega));clear af ae)))
 obtain⟨J,aK⟩:=ν ((w2.alloc (.cells (Γj x os ah ai ke aj ag) 253)));have av:Hid (ql w2 J):=κ (by rw[<-aK];exact ql.alloc _ _);have aP:Hid (J.heap[w2.heap.size]? =ϊ (.cells (Γj x os ah ai ke aj ag) 253 (0,0))):=κ (by rw[<-aK];exact qj w2 _);have aN:=κ (qq av.o bh.o);rw[aK];clear aK
 go_cut [7,8,9] from 21 (λca cb cc bz=> ∃C,ca= γ C/\cb= ι f/\cc= μ an/\ql J bz/\bz.heap[C]? =ϊ (.cells #[ι ad,ι s.tgt] 103 (0,0))/\J.heap.size<=C)
 case first=>
  have bF: ∀x:qt J,x.w'.rangeAt k.L 5 [ι s.cur,ι s.tgt]:=λx j v M=>by
   have d:=qq x.h aN.o
   match j,M with
   | 0,M=>exact qm d 5 M
   | 1,M=>exact qm d 6 M
  have cd: ∀y:qt J,y.w'.cell? ⟨w2.heap.size,1,ϋ⟩=ϊ (ι x.layer):=λy=>qm (qq y.h aP.o) 1 rfl
  have bl: ∀y:qt J,y.w'.cell? ⟨w2.heap.size,2,ϋ⟩=ϊ (μ x.key):=λy=>qm (qq y.h aP.o) 2 rfl
  refine zB J 17 (.op 0 ύ (.op 1 ύ (.op 2 ύ (.op 3 ύ (.op 4 ύ (.op 5 ύ (.op 6 ύ (.op 7 ύ (.br [8,13] λk=>if k=8 then .op 9 ύ (.op 10 ύ (.op 11 ύ (.op 12 ύ (.op 13 ό (.op 14 ό (.op 15 ύ (.op 16 ύ (.done)))))))) else .op 8 ό (.op 9 ύ (.op 10 ύ (.op 11 ύ (.op 12 ύ (.op 14 ό (.op 15 ύ (.op 16 ύ (.done))))))))))))))))) ξ ξ ?_
  iterate 3 (refine qH rfl rfl (qk ρ) ?_;intro K G;go_big_quiet_op;go_big_quiet_on)
  refine QU rfl rfl (qk ρ) 103 (.tmp 24) rfl k.L 5 rfl [ι s.cur,ι s.tgt] _ (λw' be=>by obtain⟨y,rfl⟩:=be;exact bF y) underlying103 rfl ξ ?_;intro K G;go_simp;refine G _ ?_;clear G K
  repeat (first | (refine jg rfl rfl (qk ρ) ?_) | (refine qH rfl rfl (qk ρ) ?_;intro K G;go_big_quiet_op;go_big_quiet_on))
  refine wP ζ ?_ ?_
  ·(refine qO rfl rfl ?_;intro K G;unfold jn;go_simp)
   go_call au.o _ as e w5 ⟨rfl,ao⟩;have I:Hid (ql J w5):=κ ((ql.drewN _ 1).trans ao);clear ao;refine⟨_,rfl,qk I.o,G _ _ ?_⟩;clear G K
   repeat (first | (refine jg rfl rfl (qk I.o) ?_) | (refine qH rfl rfl (qk I.o) ?_;intro K G;go_big_quiet_op;go_big_quiet_on))
   (refine qO rfl rfl ?_;intro K G;unfold jn;go_simp)
   refine⟨qk (I.o.al _),G _ _ ?_⟩;clear G K
   (refine qO rfl rfl ?_;intro K G;unfold jn;go_simp)
   refine⟨qk (by repeat (first | exact I.o.al _ | refine ql.st ?_ (by have:=I.o.size;simp;omega) _)),G _ _ ?_⟩;clear G K
   repeat (first | (refine jg rfl rfl (qk (by repeat (first | exact I.o.al _ | refine ql.st ?_ (by have:=I.o.size;simp;omega) _))) ?_) | (refine qH rfl rfl (qk (by repeat (first | exact I.o.al _ | refine ql.st ?_ (by have:=I.o.size;simp;omega) _))) ?_;intro K G;go_big_quiet_op;go_big_quiet_on))
   refine zg ?_;go_wp2;go_meet;exact⟨_,rfl,rfl,rfl,I.o.al _,qj w5 _,I.o.size⟩
  ·(refine qO rfl rfl ?_;intro K G;unfold jn;go_simp)
   refine⟨qk ρ,G _ _ ?_⟩;clear G K
   (refine qO rfl rfl ?_;intro K G;unfold jn;go_simp)
   go_call au.o _ as e w5 ⟨rfl,ao⟩;have I:Hid (ql J w5):=κ (((ql.drewN _ 1).al _).trans ao);have ar:Hid (w5.heap[J.heap.size]? =ϊ (.cells #[ι 0,ι 0] 103 (0,0))):=κ (qq ao (qC rfl));clear ao;have bL:w5.cell? ⟨J.heap.size,0,ϋ⟩=ϊ (ι 0):=qm ar.o 0 rfl;have U:w5.cell? ⟨J.heap.size,1,ϋ⟩=ϊ (ι 0):=qm ar.o 1 rfl;have e0:w5.frozen? ⟨J.heap.size,0,ϋ⟩=ύ:=yw ar.o 0;have aG:w5.frozen? ⟨J.heap.size,1,ϋ⟩=ύ:=yw ar.o 1;refine⟨_,rfl,qk I.o,G _ _ ?_⟩;clear G K
   repeat (first | (refine jg rfl rfl (qk I.o) ?_) | (refine qH rfl rfl (qk I.o) ?_;intro K G;go_big_quiet_op;go_big_quiet_on))
   (refine qO rfl rfl ?_;intro K G;unfold jn;go_simp)
   refine⟨qk ((I.o.st (ϕ _) _).st (ϕ _) _),G _ _ ?_⟩;clear G K
   repeat (first | (refine jg rfl rfl (qk ((I.o.st (ϕ _) _).st (ϕ _) _)) ?_) | (refine qH rfl rfl (qk ((I.o.st (ϕ _) _).st (ϕ _) _)) ?_;intro K G;go_big_quiet_op;go_big_quiet_on))
   refine zg ?_;go_wp2;go_meet;exact⟨_,rfl,rfl,rfl,(I.o.st (ϕ _) _).st (ϕ _) _,qB (qp (qp ar.o 0 _) 1 _) rfl,ϕ _⟩
 case rest=>
 obtain⟨C,rfl,rfl,rfl,aM,bt,cj⟩:=hcut;have aC:=κ aM;have bi:=κ bt;have am:=κ (qq aM aN.o);have aR:=κ (qq aM aP.o);clear aM bt;have ck:k.L<C:=by have:=qn aN.o;omega
 have bL:wc.cell? ⟨C,0,ϋ⟩=ϊ (ι ad):=qm bi.o 0 rfl;have U:wc.cell? ⟨C,1,ϋ⟩=ϊ (ι s.tgt):=qm bi.o 1 rfl;have c5:wc.cell? ⟨k.L,5,ϋ⟩=ϊ (ι s.cur):=qm am.o 5 rfl;have ce:wc.cell? ⟨k.L,6,ϋ⟩=ϊ (ι s.tgt):=qm am.o 6 rfl;have aH:wc.frozen? ⟨k.L,5,ϋ⟩=ύ:=yw am.o 5;have cg:wc.frozen? ⟨k.L,6,ϋ⟩=ύ:=yw am.o 6;have cq:wc.cell? ⟨w2.heap.size,0,ϋ⟩=ϊ (ι x.id):=qm aR.o 0 rfl;have aL: ¬w2.heap.size=k.L:=by have:=qn bh.o;omega
 cases z
 ·go_wp2;refine bodyPost_ret (v:= .tuple #[ι x.id,ι f,ό]) (by simp[results,results137,go_sem]) rfl ?_;obtain⟨W6,O⟩:=ν ((wc.setCell ⟨k.L,5,ϋ⟩ (ι ad)).setCell ⟨k.L,6,ϋ⟩ (ι s.tgt));have az:Hid (jt (λb=>b=k.L∨RgB k.R1 k.A1 b) w W6):=κ (by rw[<-O];exact((((A2.o.mono (S':=λb=>b=k.L∨RgB k.R1 k.A1 b) λb d=>ϔ d).more (av.o.trans aC.o)).set (p:=⟨k.L,5,ϋ⟩) (ϒ rfl) _).set (p:=⟨k.L,6,ϋ⟩) (ϒ rfl) _));have aA:Hid (W6.heap[k.L]? =ϊ (.cells (jQ k vo {s with A:=T,cur:=ad}) 153 (0,0))):=κ (by rw[<-O];exact qB (qp (qp am.o 5 _) 6 _) rfl);have aQ:Hid (W6.heap[w2.heap.size]? =ϊ (.cells (Γj x os ah ai ke aj ag) 253 (0,0))):=κ (by rw[<-O];exact qo (qo aR.o ⟨k.L,5,ϋ⟩ _ aL) ⟨k.L,6,ϋ⟩ _ aL)
  have aO:Hid (qN 13 327 253 W6 k.R1 k.A1 s.room ((aw+1)%s.room) q aV _ aT aU _):=κ (by
   obtain⟨⟨U,ab,_⟩,_⟩:=ac.o;rw[<-O]
   exact((bj.o.more (av.o.trans aC.o)).away (S:=λb=>b=k.L) (((jt.refl (λb=>b=k.L) wc).set (p:=⟨k.L,5,ϋ⟩) rfl _).set (p:=⟨k.L,6,ϋ⟩) rfl _) (C0 U) (C0 ab)))
  rw[O];clear O;have ak:jt (λb=>b=k.L∨RgB k.R1 k.A1 b) w W6:=az.o;obtain⟨⟨U,ab,aE,aF,aX,aY⟩,⟨aG,aZ,ba,bb,aH⟩,⟨bR,bS,bT,bU⟩,⟨bV,bW,bX⟩,⟨bY,bZ⟩,_⟩:=ac.o;have aa:jt k.muts w W6:=ak.mono λb d=>by rcases d with e | e;exact ϒ e;exact ϔ (ϒ e)
  have aq:jt (lnM k vo) w W6:=aa.mono λb d=>ϒ d
  have M: ∀b,vo.ownBlock=ϊ b->vo.ownBlock=ϊ b∨w.heap.size<=b:=λb d=>ϒ d
  have aJ: ∀b,(λb=>b=k.L∨RgB k.R1 k.A1 b) b->lnE N k vo b:=λb d=>kZ (by rcases d with e | e;exact ϒ e;exact ϔ (ϒ e))
  have Y:=H.o.ok;exact⟨rfl,H.o.make aa.size aA.o ⟨_,_,_,_,_,_,_,aO.o,AQ.o.mono λc y ax=>H.o.held ax aq M⟩ (H.o.r2.step ak (by rintro(e | e | e)<;>omega) (by rintro(e | e | e)<;>omega) aJ λb d=>ϒ (xE H.o.own M d)) (H.o.r3.step ak (by rintro(e | e | e)<;>omega) (by rintro(e | e | e)<;>omega) aJ λb d=>ϒ (xE H.o.own M d)) (H.o.rows aa) ⟨Y.most,Y.row,Y.lt,Y.sq,Y.src⟩,aa.mono λb d=>H.o.muts b d⟩
 ·go_wp2;obtain⟨W6,O⟩:=ν ((wc.setCell ⟨k.L,5,ϋ⟩ (ι ad)).setCell ⟨k.L,6,ϋ⟩ (ι s.tgt));have az:Hid (jt (λb=>b=k.L∨RgB k.R1 k.A1 b) w W6):=κ (by rw[<-O];exact((((A2.o.mono (S':=λb=>b=k.L∨RgB k.R1 k.A1 b) λb d=>ϔ d).more (av.o.trans aC.o)).set (p:=⟨k.L,5,ϋ⟩) (ϒ rfl) _).set (p:=⟨k.L,6,ϋ⟩) (ϒ rfl) _));have aA:Hid (W6.heap[k.L]? =ϊ (.cells (jQ k vo {s with A:=T,cur:=ad,B:=s.B++[(x,an)]}) 153 (0,0))):=κ (by rw[<-O];exact qB (qp (qp am.o 5 _) 6 _) rfl);have aQ:Hid (W6.heap[w2.heap.size]? =ϊ (.cells (Γj x os ah ai ke aj ag) 253 (0,0))):=κ (by rw[<-O];exact qo (qo aR.o ⟨k.L,5,ϋ⟩ _ aL) ⟨k.L,6,ϋ⟩ _ aL)
  have aO:Hid (qN 13 327 253 W6 k.R1 k.A1 s.room ((aw+1)%s.room) q aV _ aT aU _):=κ (by
   obtain⟨⟨U,ab,_⟩,_⟩:=ac.o;rw[<-O]
   exact((bj.o.more (av.o.trans aC.o)).away (S:=λb=>b=k.L) (((jt.refl (λb=>b=k.L) wc).set (p:=⟨k.L,5,ϋ⟩) rfl _).set (p:=⟨k.L,6,ϋ⟩) rfl _) (C0 U) (C0 ab)))
  rw[O];clear O;obtain⟨aI,bf,bq,aW,bo,bp,bs,af,ae⟩:=H.o.r2;have bA:=κ ae;have bQ:bf.length<s.room:=by have:=ae.len;omega
  have R2:Hid (qN 14 330 255 W6 k.R2 k.A2 s.room aI bf bq aW bo bp bs):=κ (af.away az.o (by obtain⟨⟨U,ab,aE,aF,aX,aY⟩,⟨aG,aZ,ba,bb,aH⟩,⟨aw,aI,bM,bN⟩,_⟩:=ac.o;rintro(e | e | e)<;>omega) (by obtain⟨⟨U,ab,aE,aF,aX,aY⟩,⟨aG,aZ,ba,bb,aH⟩,⟨aw,aI,bM,bN⟩,_⟩:=ac.o;rintro(e | e | e)<;>omega));have cl:k.R2<w.heap.size:=qn af.ring;have ch:k.A2<w.heap.size:=qn af.row;have cu:w.heap.size<=w2.heap.size:=A2.o.size;clear af ae;have bw: ¬RgB k.R2 k.A2 k.L:=by
   obtain⟨⟨U,ab,aE,aF,_⟩,_⟩:=ac.o;rintro(e | e)<;>omega
  have bx: ¬RgB k.R2 k.A2 w2.heap.size:=by rintro(e | e)<;>omega
  have bl: ∀y:qz (RgB k.R2 k.A2) W6,y.w'.cell? ⟨k.L,2,ϋ⟩=ϊ (π (ϊ ⟨k.R2,0,ϋ⟩)):=λy=>qm (y.h.blk aA.o bw) 2 rfl
  have bk: ∀y:qz (RgB k.R2 k.A2) W6,y.w'.rangeAt w2.heap.size 0 (Γj x os ah ai ke aj ag):=λy=>xy (y.h.blk aQ.o bx)
  refine QN (RgB k.R2 k.A2) W6 8 8 [7] ?_
  refine Qs4 ?_
  refine jh rfl rfl (qi σ) 253 (.tmp 5) rfl w2.heap.size 0 rfl (Γj x os ah ai ke aj ag) _ (λw' be=>by obtain⟨y,rfl⟩:=be;exact bk y) underlying253 rfl ξ ?_;intro K G;go_simp;refine G _ ?_;clear G K
  refine Qs2 ?_
  (refine Ql ?_;intro K G)
  go_call UH _ k.R2 k.A2 s.room aI bf bq aW bo bp bs (R2.o.more (ql.drewN W6 1)) bQ (Γk x os ah ai ke aj ag an) ⟨rfl,by simp[Value.oneCell']⟩ as e w8 ⟨rfl,⟨cf,bu⟩,bm⟩;have bH:=κ bu;have ap:Hid (jt (RgB k.R2 k.A2) W6 w8):=κ (((jt.refl _ W6).drewN 1).trans bm);clear bu bm;refine⟨_,rfl,qi ap.o,G _ _ ?_⟩;clear G K bl bk;refine qA ?_;have bC:=κ (ap.o.blk aA.o bw);have bI:=κ (ap.o.blk aQ.o bx);have cr:w8.cell? ⟨w2.heap.size,0,ϋ⟩=ϊ (ι x.id):=qm bI.o 0 rfl;go_wp2;refine bodyPost_ret (v:= .tuple #[ι x.id,ι f,ό]) (by simp[results,results137,go_sem]) rfl ?_;have ak:jt (λb=>b=k.L∨RgB k.R1 k.A1 b∨RgB k.R2 k.A2 b) w w8:=(az.o.mono λb d=>by rcases d with e | e;exact ϒ e;exact ϔ (ϒ e)).trans (ap.o.mono λb d=>ϔ (ϔ d));obtain⟨⟨U,ab,aE,aF,aX,aY⟩,⟨aG,aZ,ba,bb,aH⟩,⟨bR,bS,bT,bU⟩,⟨bV,bW,bX⟩,⟨bY,bZ⟩,_⟩:=ac.o;have aa:jt k.muts w w8:=ak.mono λb d=>by rcases d with e | e | e;exact ϒ e;exact ϔ (ϒ e);exact ϔ (ϔ (ϒ e))
  have aq:jt (lnM k vo) w w8:=aa.mono λb d=>ϒ d
  have M: ∀b,vo.ownBlock=ϊ b->vo.ownBlock=ϊ b∨w.heap.size<=b:=λb d=>ϒ d
  have aJ: ∀b,(λb=>b=k.L∨RgB k.R1 k.A1 b∨RgB k.R2 k.A2 b) b->lnE N k vo b:=λb d=>kZ (by rcases d with e | e | e;exact ϒ e;exact ϔ (ϒ e);exact ϔ (ϔ (ϒ e)))
  have Y:=H.o.ok;exact⟨rfl,H.o.make aa.size bC.o ⟨_,_,_,_,_,_,_,aO.o.away ap.o X0 X0,AQ.o.mono λc y ax=>H.o.held ax aq M⟩ ⟨_,_,_,_,_,_,_,bH.o,(bA.o.mono λc y ax=>H.o.held ax aq M).snoc (H.o.held (jw.chosen an bB.o) aq M)⟩ (H.o.r3.step ak (by rintro(e | (e | e) | (e | e))<;>omega) (by rintro(e | (e | e) | (e | e))<;>omega) aJ λb d=>ϒ (xE H.o.own M d)) (H.o.rows aa) ⟨Y.most,Y.row,Y.lt,Y.sq,Y.src⟩,aa.mono λb d=>H.o.muts b d⟩
def De (h:LnX N w k vo s):Calls prog 137 #[γ k.L] w λe w'=>e= .returned (.tuple #[ι (jf s).2.1,ι (jf s).2.2.1,μ (jf s).2.2.2])/\LnX (xf N w w') w' k vo (jf s).1/\jt N w w':=by
 cases hm:vC s 1 with
 | false=>
  have e:jf s=(s,0,0,ύ):=by unfold jf;rw[ϐ hm]
  rw[e];refine(Y3 h hm).mono ?_;rintro e w' ⟨rfl,m⟩;exact⟨rfl,h.grow m,jt.of_more m⟩
 | true=>
  cases hA:s.A with
  | nil=>
   have:(decide (0<s.A.length)&&decide (¬s.B.length=s.room))=ό:=hm;rw[hA] at this;simp at this
  | cons x T=>
   have e:jf s=({s with A:=T,cur:=(xJ s.cur s.tgt x.layer x.key).1,B:=if (xJ s.cur s.tgt x.layer x.key).2.1=0 then s.B++[(x,(xJ s.cur s.tgt x.layer x.key).2.2)] else s.B},x.id,(xJ s.cur s.tgt x.layer x.key).2.1,ό):=by
    unfold jf;rw[ώ (by rw[hm];decide),hA]
   rw[e];rcases ht:xJ s.cur s.tgt x.layer x.key with ⟨d,f,G⟩
   simp only;have:=Zn h hm x T hA d f G ht (f==0) rfl
   simpa using this
end
def Jz (n s:Int):Byt (qy n s):=by
 unfold qy;split
 ·exact JF _ _
 ·exact xh
def Ix (l:List Int):Byt (ssB l):=by
 induction l with
 | nil=>exact xh
 | cons x l ih=>exact zZ (Jz _ _) ih
def EM {p:Pk} (h:uf p):Byt (DB p):=by
 unfold DB CV Hz;refine zZ (zZ (zZ (zZ (zZ (zZ ?_ ?_) ?_) ?_) ?_) (Ix _)) ?_
 all_goals try exact Jz _ _
 split
 ·exact zZ (zZ (Jz _ _) (Jz _ _)) h.ex
 ·exact xh
def Iy {p:Pk} (h:uf p):Byt (pkB p):=zZ (EM h) h.pl
def jt.setNew {S:Nat->Prop} {a b:World} (h:jt S a b) {p:Addr} (H:a.heap.size<=p.block) (v:Value):jt S a (b.setCell p v):=
 ⟨h.os,h.tape,h.output,by simpa [World.setCell] using h.size,λk d G=>by rw[Below.heap_setCell _ _ _ _ (λe=>by omega)];exact h.block k d G⟩
def Vg {base e size n b:Nat} {xs:List Value} (h:w.ownsRow base e size v n xs) (d:v.ownBlock=ϊ b):b<w.heap.size:=by
 rcases h.2 with ⟨rfl,_⟩ | ⟨g,cap,cur,rfl,_,G,_⟩
 ·cases d
 ·obtain rfl:g=b:=by injection d
  exact lt_of_block G
def vE (room:Nat) (q:List (List Value)) (x:List Value):List (List Value):=if q.length<room then q++[x] else q.tail++[x]
def Pc (ad:World) (R A room f:Nat) (q:List (List Value)) (M I J H:Int) (css:List (List Value)) (aa:qN 2 332 56 ad R A room f q M I J H css)
  (ac: ∀c∈q,∃i G n d,c=[ι i,δ G n d]) (x:List Value) (ab:x.length=2/\ ∀u∈x,u.oneCell'=ό):
  ∃old G n d,(old=if q.length<room then 0 else (q.head?.map idN).getD 0)/\
  ∀w,qN 2 332 56 w R A room f q M I J H css->Calls prog 202 #[γ R,θ x.toArray] w λe w'=>e= .returned (.tuple #[θ #[ι old,δ G n d],(decide (¬q.length<room)),ι 0])/\
   (∃f' N Y css',qN 2 332 56 w' R A room f' (vE room q x) N I Y H css')/\jt (RgB R A) w w':=by
 by_cases hq:q.length<room
 ·refine⟨0,ϋ,0,0,by rw[ϐ hq],λw h=> ?_⟩;have O:decide (¬q.length<room)=ύ:=by simp[hq]
  have U:vE room q x=q++[x]:=by unfold vE;rw[ϐ hq]
  rw[O,U];refine(UD w R A room f q M I J H css h hq x ab).mono ?_;rintro e w' ⟨rfl,⟨N,g⟩,a⟩;exact⟨rfl,⟨_,_,_,_,g⟩,a⟩
 ·have ae:=aa.fits;have af:=aa.pos;cases q with
  | nil=>simp at hq;omega
  | cons c T=>
   obtain⟨i,G,n,d,rfl⟩:=ac c η;refine⟨i,G,n,d,by rw[ώ hq];rfl,λw h=> ?_⟩;have O:decide (¬([ι i,δ G n d]::T).length<room)=ό:=by simpa using hq
   have U:vE room ([ι i,δ G n d]::T) x=T++[x]:=by unfold vE;rw[ώ hq];rfl
   rw[O,U];refine(UE w R A room f [ι i,δ G n d] T M I J H css h τ x ab).mono ?_;rintro e w' ⟨rfl,⟨N,Y,g⟩,a⟩;exact⟨rfl,⟨_,_,_,_,g⟩,a⟩
def zb.tl {α β:Type} {p:α->β->Prop} {l:List α} {m:List β} (h:zb p l m):zb p l.tail m.tail:=by
 cases l with
 | nil=>cases m with
  | nil=>exact trivial
  | cons b m=>exact h.elim
 | cons a l=>cases m with
  | nil=>exact h.elim
  | cons b m=>exact h.2
def DY {α:Type} {R:qL α} {room:Nat} {l:List α} {c:List Value} {y:α} (a:zb (jw R D w) q l) (h:jw R D w c y):
  zb (jw R D w) (vE room q c) (if l.length<room then l++[y] else l.tail++[y]):=by
 unfold vE;rw[a.len];split
 ·exact a.snoc h
 ·exact a.tl.snoc h
section
variable {N:Nat->Prop} {w w':World} {k:LnB} {vo vo':Value} {s s':LnS}
def LnX.fresh (h:LnX N w k vo s) {G:IntKind} {l:List Int} (M:SlI G w' v l) (J: ∀b,v.ownBlock=ϊ b->w.heap.size<=b/\b<w'.heap.size) (O: ∀b,vo'.ownBlock=ϊ b->vo.ownBlock=ϊ b) {w'':World} (a:jt (lnE (xf N w w') k vo') w' w''):SlI G w'' v l:=by
 refine M.off (λb e d=> ?_) a;obtain⟨H,I⟩:=J b e;rcases d with d | d
 ·have:=h.own b (h.muts b (d (ϔ ⟨H,I⟩)));omega
 ·have:=h.own b (h.vob (O b d)).1;omega
def UJ (a:zb (jw ROu D w) q l): ∀c∈q,∃i G n d,c=[ι i,δ G n d]:=λc H=>by
 obtain⟨o,_,I⟩:=a.mem c H;obtain⟨v,rfl,⟨G,d,rfl,_⟩,_⟩:=I.read;exact⟨_,_,_,_,rfl⟩
def Pg (a:zb (jw ROu D w) q l):(q.head?.map idN).getD 0=(l.head?.map (·.1)).getD 0:=by
 cases l with
 | nil=>rw[a.nil_r];rfl
 | cons o l=>
  obtain⟨c,q',rfl,d,_⟩:=a.uncons;obtain⟨v,rfl,_⟩:=d.read;rfl
end
end Go.Proofs.YtlmllmonabafjaaGreatDoor
