/- Contracts and plain laws. -/
import Derived.Test.YtlmllmonabafjaaGreatDoorMg11
import Derived.Test.YtlmllmonabafjaaGreatDoorMg9
namespace Go.Proofs.YtlmllmonabafjaaGreatDoor
open Go.Value renaming bool->μ,slice->δ,pointer->π,agg->θ
open Go.IntKind renaming i64->ι,u8->υ,u16->φ,u32->ω,i32->χ,u64->ψ
open _root_.Go.Proofs.Tryz
set_option linter.unusedSimpArgs false
set_option maxHeartbeats 8000000
set_option linter.unusedVariables false
open Go.RowKit
set_option maxRecDepth 100000
structure xZ (s:RmS):Prop where
 keys: ∀x,(qh s.tab.u x).isSome=true->0<=x/\x<6
 lane: ∀x,(qh s.tab.u x).isSome=(qh s.lanes x).isSome
 few:s.tab.u.length<=1000000
theorem Ii {w:World} {T a b c:Nat} {t:TS} (h:jo w T a b c t) (v0:Int) (H: ∀x,(qh t.u x).isSome=true->0<=x/\x<6) (I:t.u.length<=1000000):
  Calls prog 142 #[γ T,ι v0] w λe w'=>(∃v,e= .returned v/\SlI .i64 w' v (prR (j5 v0) t.u)/\ ∀q,v.ownBlock=some q->w.heap.size<=q)/\qa w w':=by
 rw[<-Vq h.mu.keys H]
 go_enter func142,ntmps142
 go_wp2_with (go_at_call 203;(go_call DC (h.more (qa.alloc w (.cells #[ι v0] 3))) v0 (qk w _) I as e w2 ⟨⟨v,rfl,s,d⟩,m⟩;have S:=κ s;have M:=κ m;have G:=κ d;clear s m d))
 go_ret;exact⟨⟨_,rfl,S.o,λq d=>Nat.le_trans (qa.alloc _ _).size (G.o q d)⟩,(qa.alloc _ _).trans M.o⟩
theorem Hl {w:World} {T a b c:Nat} {t:TS} (h:jo w T a b c t) (v0:Int) (H: ∀x,(qh t.u x).isSome=true->0<=x/\x<6) (I:t.u.length<=1000000):
  Calls prog 190 #[γ T,ω v0] w λe w'=>(∃v,e= .returned v/\SlI .i64 w' v (prR (ya v0) t.u)/\ ∀q,v.ownBlock=some q->w.heap.size<=q)/\qa w w':=by
 rw[<-Vq h.mu.keys H]
 go_enter func190,ntmps190
 go_wp2_with (go_at_call 203;(go_call KD (h.more (qa.alloc w (.cells #[ω v0] 38))) v0 (qk w _) I as e w2 ⟨⟨v,rfl,s,d⟩,m⟩;have S:=κ s;have M:=κ m;have G:=κ d;clear s m d))
 go_ret;exact⟨⟨_,rfl,S.o,λq d=>Nat.le_trans (qa.alloc _ _).size (G.o q d)⟩,(qa.alloc _ _).trans M.o⟩
section
variable {T:Nat->Tg} {w0 w w':World} {k:RmK} {vp vr:Value} {s:RmS} {F:List Nat}
theorem Vv (J:xZ s) {H:Sb->Bool} {x:Int} (h:x∈prR H s.tab.u): ∃d l,qh s.tab.u x=some d/\qh s.lanes x=some l:=by
 obtain⟨_,d,G,_⟩:=(Ga H s.tab.u x).1 h;have:=J.lane x;rw[G] at this;obtain⟨l,I⟩:=Option.isSome_iff_exists.1 this.symm;exact⟨d,l,G,I⟩
def kL (s:RmS) (n:Int) (x:Int):Bool:=match qh s.lanes x with
 | some l=>wQ l n
 | none=>false
theorem Be (s:RmS) (o:Og) {t:zu} (d:qh s.strs o=some t):s.wants o=(t.askedOf||(prR (j5 o.1) s.tab.u).any (kL s o.2)):=by
 unfold RmS.wants;rw[d];rfl
theorem F9 (h:RmX T w0 w k vp vr s F) (bg:xZ s) (aa o2:Int) {t:zu} (an:qh s.strs (aa,o2)=some t):
  Calls prog 85 #[γ k.R,θ #[ι aa,ι o2]] w λe w'=>e= .returned (μ (s.wants (aa,o2)))/\qa w w':=by
 have ag:=κ h;obtain⟨p,bF,v,bd,ad⟩:=h.strAt an;rw[Be s (aa,o2) an];have aw:=κ bg;obtain⟨W1,aq⟩:=ν (w.alloc (.cells #[ι aa,ι o2] 58));have ac:Hid (qa w W1):=κ (by rw[<-aq];exact qa.alloc _ _);have ar:Hid (W1.heap[w.heap.size]? =some (.cells #[ι aa,ι o2] 58 (0,0))):=κ (by rw[<-aq];exact qk w _);have ay:=λ(x:qp W1)=>qc x.h ar.o
 have aV:=λx=>β0 (ay x);have bp:=λx=>β1 (ay x);clear ay
 have az:=λ(x:qp W1)=>qc (ac.o.trans x.h) ag.o.blk
 have bn:=λx=>β13 (az x);have aT:=λx=>β11 (az x);clear az
 have aU:=λ(x:qp W1)=>β7 (qc (ac.o.trans x.h) ad.blk)
 have bo: ∀x:qp W1,(Instr.lookup 91 (.map (some k.MS)) (θ #[ι aa,ι o2]) false).run prog x.w'= .ok (γ p) x.w':=λx=>by
  have:=yf (ag.o.stm.more (ac.o.trans x.h)) (aa,o2) false;rw[bd] at this;exact this
 clear bd ad an h bg;obtain⟨bv,aY⟩:=ν (t.askedOf);rw[aY] at aU ⊢;clear aY
 go_enter func85,ntmps85
 go_upto_region 1 with fail
 (try rw[aq])
 clear aq;refine qz _ (qa.refl _) ξ ξ ?_
 repeat (go_big_quiet_step (fail))
 refine wpQuiet_nil ?_;intro _ bB;obtain⟨aS,rfl⟩:=bB;cases bv with
 | true=>
  go_wp2;go_ret;exact⟨rfl,ac.o.trans aS.h⟩
 | false=>
  go_upto_region 3 with fail
  obtain⟨W2,aF⟩:=ν (aS.w');have ah:Hid (qa W1 W2):=κ (by rw[<-aF];exact aS.h)
  (try rw[aF])
  clear aF aU bo bn;have bq: ∀x:qp W2,x.w'.cell? ⟨w.heap.size,0,none⟩=some (ι aa):=λx=>aV ⟨_,ah.o.trans x.h⟩
  have br: ∀x:qp W2,x.w'.cell? ⟨k.R,11,none⟩=some (π (some ⟨k.tb,0,none⟩)):=λx=>aT ⟨_,ah.o.trans x.h⟩
  clear aV bp aT;refine xY W2 9 [(0,false),(1,false),(2,false),(3,false),(4,false),(5,false),(8,false),(6,true),(7,false)] ξ ξ ?_
  refine Qq7 ?_
  (refine Ql ?_;intro K aE)
  go_call Ii (ag.o.tab.more ((ac.o.trans ah.o).dr 1)) aa aw.o.keys aw.o.few as e bm ⟨⟨v3,rfl,s3,bC⟩,bk⟩;have ak:Hid (qa W2 bm):=κ ((qa.drewN _ 1).trans bk);obtain⟨bJ,cap,rfl,bA,bf,_⟩:=s3;have aX:=κ bf;clear bk bC bf;refine⟨_,rfl,qj ak.o,aE _ _ ?_⟩;clear aE K
  iterate 1 (refine qD rfl rfl (qj ak.o) ?_;intro K aE;go_big_quiet_op;go_big_quiet_on)
  refine qv ?_;clear bq br;have bu:=κ (ac.o.trans (ah.o.trans ak.o));have ao:=κ (qc (ah.o.trans ak.o) ar.o);clear ac ah ak ar;obtain⟨L,am⟩:=ν (prR (j5 aa) s.tab.u);have bt:Hid (∀x∈L,∃l,qh s.lanes x=some l):=κ (λx ad=>by rw[<-am] at ad;obtain⟨_,l,_,h⟩:=Vv aw.o ad;exact⟨l,h⟩);have aW:=κ am;rw[am] at aX bA;simp only[am];clear am;go_wp2
  go_loopw [27] (λaQ wr=> ∃j:Nat,j<=L.length/\aQ= ι j/\(∀i (hi:i<L.length),i<j->kL s o2 L[i]=false)/\qa bm wr) (λaQ _=>L.length-(intOf aQ).toNat)
  case atStart=>exact⟨0,τ,rfl,λi hi h=>by omega,qa.refl _⟩
  case round=>
   obtain⟨j,bH,rfl,bc,aM⟩:=hrel;have av:=κ bc;have U:=κ (bu.o.trans aM);have ab:=κ aM;clear bc aM;by_cases hlt:j<L.length
   ·have bz:(j:Int)<(L.length:Int):=by omega
    obtain⟨b,bD,rfl,bw,aG⟩:=aX.o j hlt;have aG:wr.cell? ⟨b,bD+j,none⟩=some (ι (L.getD j 0)):=by rw[ab.o.cells _ _ bw];exact aG
    have ba:L.getD j 0=L[j]:=by simp[hlt]
    obtain⟨l,aH⟩:=bt.o L[j] (List.getElem_mem hlt);have aP:kL s o2 L[j]=wQ l o2:=by unfold kL;rw[aH]
    have ae:Hid (wQ l o2=false-> ∀i (hi:i<L.length),i<j+1->kL s o2 L[i]=false):=κ (λbx i hi h=>by
     by_cases e:i<j
     ·exact av.o i hi e
     ·obtain rfl:i=j:=by omega
      rw[aP];exact bx)
    have ax:Hid (wQ l o2=true->L.any (kL s o2)=true):=κ (λan=>List.any_eq_true.2 ⟨L[j],List.getElem_mem hlt,by rw[aP];exact an⟩);obtain⟨p2,be,bb⟩:=ag.o.laneAt aH;have au:=κ bb;rw[ba] at aG;have q:=xo (ag.o.lnm.more U.o) L[j] false;rw[be] at q;generalize L[j]=x at *;have bG:=β12 (qc U.o ag.o.blk);clear ba aP aH bb be av;obtain⟨bj,aL⟩:=ν (l.wanted);obtain⟨bi,aJ⟩:=ν (l.gone);obtain⟨H,aI⟩:=ν (l.cur);obtain⟨d,aK⟩:=ν (l.tgt);have bh:wQ l o2=(bj&&(!bi&&(!decide (H=d)&&decide (d=o2)))):=by unfold wQ;rw[aL,aJ,aI,aK]
    have af:=κ (λw m=>Xj (au.o.on (w':=w) m));have aj:=κ (λw m=>JK (au.o.on (w':=w) m));rw[aL,aI,aK] at af;rw[aJ] at aj;rw[bh] at ae ax;clear aL aJ aI aK bh au;have aZ:((GB (some p2)):Value)= γ p2:=rfl;simp only[aZ,Bool.false_eq_true,if_false] at q;clear aZ;cases bj with
    | false=>
     go_wp2_with (go_at_call 67;(go_call af.o _ U.o as e w5 ⟨rfl,O⟩;have I:=κ O;clear O))
     go_roundw
     case rel=>exact⟨j+1,τ,by go_num,ae.o rfl,(ab.o.trans I.o).al _⟩
     case measure=>simp[intOf];omega
    | true=>
     cases bi with
     | true=>
      go_wp2_with (first | (go_at_call 67;(go_call af.o _ U.o as e w5 ⟨rfl,O⟩;have I:=κ O;clear O)) | (go_at_call 69;(go_call aj.o _ ((U.o.trans I.o).al (.cells #[ι H,ι d] 103)) as e w6 ⟨rfl,N⟩;have Y:=κ N;have J:=κ (qc N (qk w5 (.cells #[ι H,ι d] 103)));have aB:=β0 J.o;have aC:=β1 J.o;clear N)) | (go_at_call 38;(go_call vN H d w6 as e aR ⟨rfl,G⟩;rw[ap.o];have ai:=κ G;have aD:=β1 (qc G J.o);have aA:=β1 (qc (ab.o.trans (((I.o.al (.cells #[ι H,ι d] 103)).trans Y.o).trans G)) ao.o);clear G)))
      go_roundw
      case rel=>exact⟨j+1,τ,by go_num,ae.o rfl,((ab.o.trans I.o).al _).trans Y.o⟩
      case measure=>simp[intOf];omega
     | false=>
      obtain⟨bE,aN⟩:=ν ((!decide (H=d)));obtain⟨bl,aO⟩:=ν (decide (d=o2));have bI:(d==o2)=bl:=by rw[<-aO];rfl
      rw[aN,aO] at ae ax;have ap:=κ aN;clear aN aO;cases bE with
      | false=>
       go_wp2_with (first | (go_at_call 67;(go_call af.o _ U.o as e w5 ⟨rfl,O⟩;have I:=κ O;clear O)) | (go_at_call 69;(go_call aj.o _ ((U.o.trans I.o).al (.cells #[ι H,ι d] 103)) as e w6 ⟨rfl,N⟩;have Y:=κ N;have J:=κ (qc N (qk w5 (.cells #[ι H,ι d] 103)));have aB:=β0 J.o;have aC:=β1 J.o;clear N)) | (go_at_call 38;(go_call vN H d w6 as e aR ⟨rfl,G⟩;rw[ap.o];have ai:=κ G;have aD:=β1 (qc G J.o);have aA:=β1 (qc (ab.o.trans (((I.o.al (.cells #[ι H,ι d] 103)).trans Y.o).trans G)) ao.o);clear G)))
       go_roundw
       case rel=>exact⟨j+1,τ,by go_num,ae.o rfl,(((ab.o.trans I.o).al _).trans Y.o).trans ai.o⟩
       case measure=>simp[intOf];omega
      | true=>
       cases bl with
       | false=>
        go_wp2_with (first | (go_at_call 67;(go_call af.o _ U.o as e w5 ⟨rfl,O⟩;have I:=κ O;clear O)) | (go_at_call 69;(go_call aj.o _ ((U.o.trans I.o).al (.cells #[ι H,ι d] 103)) as e w6 ⟨rfl,N⟩;have Y:=κ N;have J:=κ (qc N (qk w5 (.cells #[ι H,ι d] 103)));have aB:=β0 J.o;have aC:=β1 J.o;clear N)) | (go_at_call 38;(go_call vN H d w6 as e aR ⟨rfl,G⟩;rw[ap.o];have ai:=κ G;have aD:=β1 (qc G J.o);have aA:=β1 (qc (ab.o.trans (((I.o.al (.cells #[ι H,ι d] 103)).trans Y.o).trans G)) ao.o);clear G)))
        go_roundw
        case rel=>exact⟨j+1,τ,by go_num,ae.o rfl,(((ab.o.trans I.o).al _).trans Y.o).trans ai.o⟩
        case measure=>simp[intOf];omega
       | true=>
        go_wp2_with (first | (go_at_call 67;(go_call af.o _ U.o as e w5 ⟨rfl,O⟩;have I:=κ O;clear O)) | (go_at_call 69;(go_call aj.o _ ((U.o.trans I.o).al (.cells #[ι H,ι d] 103)) as e w6 ⟨rfl,N⟩;have Y:=κ N;have J:=κ (qc N (qk w5 (.cells #[ι H,ι d] 103)));have aB:=β0 J.o;have aC:=β1 J.o;clear N)) | (go_at_call 38;(go_call vN H d w6 as e aR ⟨rfl,G⟩;rw[ap.o];have ai:=κ G;have aD:=β1 (qc G J.o);have aA:=β1 (qc (ab.o.trans (((I.o.al (.cells #[ι H,ι d] 103)).trans Y.o).trans G)) ao.o);clear G)))
        go_ret;exact⟨by rw[aW.o,ax.o rfl];rfl,(((U.o.trans I.o).al _).trans Y.o).trans ai.o⟩
   ·obtain rfl:j=L.length:=by omega
    have bz: ¬(L.length:Int)<(L.length:Int):=by omega
    have bs:Hid (L.any (kL s o2)=false):=κ (by
     rw[List.any_eq_false];intro x ad;obtain⟨i,hi,rfl⟩:=List.mem_iff_getElem.1 ad;rw[av.o i hi hi]
     decide)
    go_wp2;go_ret;exact⟨by rw[aW.o,bs.o];rfl,U.o⟩
end
section
variable {T:Nat->Tg} {w0 w w':World} {k:RmK} {vp vr:Value} {s:RmS} {F:List Nat}
theorem RmX.at (h:RmX T w0 w k vp vr s F):qF w0 w k s F:=⟨T,vp,vr,h⟩
theorem RmX.self (h:RmX T w0 w k vp vr s F) (a:qg (λb=>b=k.R) w w') {s':RmS} (G:w'.heap[k.R]? =some (.cells (zH k vp vr s') 95 (0,0)))
  (rest: ∀u,u≠ .room->u≠ .no->k.Holds (jU T .room w w') w' vp vr s u->k.Holds (jU T .room w w') w' vp vr s' u):qF w0 w' k s' F/\qt F w w':=by
 obtain⟨d,_⟩:=h.all .room;have I:=h.fresh;obtain⟨x,y⟩:=h.own (t:= .room) (k':=k) (vp':=vp) (vr':=vr) (s':=s') ⟨η,η⟩ (a.mono λb H=>by rw[H];exact d) ⟨(qZ I η _).2 (Or.inl d),G⟩ rest;exact⟨x.at,y⟩
theorem RmX.book (h:RmX T w0 w k vp vr s F) {m:Bk} (b:ju w' k.B k.b m) (a:qg (λx=>x=k.b) w w'):qF w0 w' k {s with book:=m} F/\qt F w w':=by
 obtain⟨H,d,_⟩:=h.all .book;have G:=h.fresh;obtain⟨x,y⟩:=h.own (t:= .book) (k':=k) (vp':=vp) (vr':=vr) (s':={s with book:=m}) ⟨η,η⟩ (a.mono λb I=>by rw[I];exact d) ⟨(qZ G η _).2 (Or.inl H),(qZ G η _).2 (Or.inl d),b⟩ (λu J N x=>by cases u<;>first | exact x | exact absurd rfl J);exact⟨x.at,y⟩
theorem RmX.table (h:RmX T w0 w k vp vr s F) {t:TS} (b:jo w' k.tb k.ta k.tc k.td t) (a:qg (λx=>x=k.ta∨x=k.tc∨x=k.td) w w'):qF w0 w' k {s with tab:=t} F/\qt F w w':=by
 obtain⟨G,H,I,J,_⟩:=h.all .table;have d:=h.fresh;obtain⟨x,y⟩:=h.own (t:= .table) (k':=k) (vp':=vp) (vr':=vr) (s':={s with tab:=t}) ⟨η,η⟩ (a.mono λb N=>by rcases N with rfl | rfl | rfl<;>assumption)
  ⟨(qZ d η _).2 (Or.inl G),(qZ d η _).2 (Or.inl H),(qZ d η _).2 (Or.inl I),(qZ d η _).2 (Or.inl J),b⟩ (λu O U x=>by cases u<;>first | exact x | exact absurd rfl O)
 exact⟨x.at,y⟩
theorem RmX.retMap (h:RmX T w0 w k vp vr s F) {m:List (Og×Bool)} (b:jh w' k.M1 kO μ m) (a:qg (λx=>x=k.M1) w w'):qF w0 w' k {s with ret:=m} F/\qt F w w':=by
 obtain⟨d,_⟩:=h.all .ret;have H:=h.fresh;obtain⟨x,y⟩:=h.own (t:= .ret) (k':=k) (vp':=vp) (vr':=vr) (s':={s with ret:=m}) ⟨η,η⟩ (a.mono λb G=>by rw[G];exact d) ⟨(qZ H η _).2 (Or.inl d),b⟩ (λu I J x=>by cases u<;>first | exact x | exact absurd rfl I);exact⟨x.at,y⟩
theorem RmX.ring (h:RmX T w0 w k vp vr s F) {q:List (List Int)} (a:qg (RgB k.RQ k.AQ) w w') (b: ∀D:Nat->Prop,(∀b,D b->T b≠ .data∨w.heap.size<=b)->RgR 1 229 35 RBy D w' k.RQ k.AQ s.cfg.room.toNat q):qF w0 w' k {s with queue:=q} F/\qt F w w':=by
 obtain⟨H,I,_⟩:=h.all .queue;have G:=h.fresh;obtain⟨x,y⟩:=h.own (t:= .queue) (k':=k) (vp':=vp) (vr':=vr) (s':={s with queue:=q}) ⟨η,η⟩ (a.mono λb d=>by rcases d with rfl | rfl<;>assumption)
  ⟨(qZ G η _).2 (Or.inl H),(qZ G η _).2 (Or.inl I),b _ (λb d=>Or.inl (λe=>d ((jC G η η b).2 e)))⟩ (λu J N x=>by cases u<;>first | exact x | exact absurd rfl J)
 exact⟨x.at,y⟩
theorem RmX.lanePut (h:RmX T w0 w k vp vr s F) {x:Int} {l l':LnS} {p:Nat} (U:qh s.lanes x=some l) (I:qh k.LA x=some p) (b:zw (xd (λb=>T b= .lane x) w w') w' p l') (a:qg (λb=>T b= .lane x) w w'):
  qF w0 w' k {s with lanes:=qw s.lanes x l'} F/\qt F w w':=by
 have J:=h.fresh;obtain⟨y,z⟩:=h.own (t:= .lane x) (k':=k) (vp':=vp) (vr':=vr) (s':={s with lanes:=qw s.lanes x l'}) ⟨η,η⟩ a
  ⟨λab aa G d=>by
   rw[I] at G;rw[xC] at d;injection G with G
   injection d with d
   subst G d;rw[wY J η]
   exact b,by rw[I,xC];rfl⟩
  (λu N Y y=>by
   cases u<;>first | exact y | skip
   rename_i O;have H:O≠x:=λe=>N (by rw[e])
   exact⟨λp l G d=>y.1 p l G (by rw[vI _ _ H] at d;exact d),by rw[vI _ _ H];exact y.2⟩)
 exact⟨y.at,z⟩
theorem RmX.strPut (h:RmX T w0 w k vp vr s F) {o:Og} {t t':zu} {p:Nat} (Y:qh s.strs o=some t) (I:qh k.SA o=some p) (b:Ij (xd (λb=>T b= .str o) w w') w' p t') (a:qg (λb=>T b= .str o) w w'):
  qF w0 w' k {s with strs:=qw s.strs o t'} F/\qt F w w':=by
 have J:=h.fresh;obtain⟨y,z⟩:=h.own (t:= .str o) (k':=k) (vp':=vp) (vr':=vr) (s':={s with strs:=qw s.strs o t'}) ⟨η,η⟩ a
  ⟨λab aa G d=>by
   rw[I] at G;rw[xC] at d;injection G with G
   injection d with d
   subst G d;rw[wY J η]
   exact b,by rw[I,xC];rfl⟩
  (λu N U y=>by
   cases u<;>first | exact y | skip
   rename_i O;have H:O≠o:=λe=>N (by rw[e])
   exact⟨λp l G d=>y.1 p l G (by rw[vI _ _ H] at d;exact d),by rw[vI _ _ H];exact y.2⟩)
 exact⟨y.at,z⟩
theorem RmX.strSet (h:RmX T w0 w k vp vr s F) {o:Og} {t t':zu} {p H:Nat} {v:Value} (J:qh s.strs o=some t) (I:qh k.SA o=some p) (x:KR (λb=>T b= .str o) w p H v t) (a:qg (λb=>b=p) w w')
  (blk:w'.heap[p]? =some (.cells (gQ H t') 176 (0,0))) (e:t'.buf=t.buf):qF w0 w' k {s with strs:=qw s.strs o t'} F/\qt F w w':=by
 refine h.strPut J I ⟨H,v,blk, ?_,by rw[e];exact x.ok,λb d=> ?_,Or.inl x.np,Or.inl x.nb,x.ne,λg G=>⟨Or.inl (x.nv g G).1,(x.nv g G).2⟩⟩ (a.mono λb d=>by rw[d];exact x.np)
 ·rw[e];exact⟨a.blk x.buf.blk (Ne.symm x.ne),x.buf.row.away a (λg G=>(x.nv g G).2)⟩
 ·rcases d with d | d
  ·exact Nat.lt_of_lt_of_le (x.sub b d) a.size
  ·exact d.2
theorem RmX.strBuf (h:RmX T w0 w k vp vr s F) {o:Og} {t:zu} {b:Jb} {p H:Nat} {v v':Value} (U:qh s.strs o=some t) (N:qh k.SA o=some p) (x:KR (λb=>T b= .str o) w p H v t) (st:km w w' H v v' b) (Y:JOK b):
  qF w0 w' k {s with strs:=qw s.strs o {t with buf:=b}} F/\qt F w w':=by
 have a:qg (λb=>T b= .str o) w w':=st.away.mono λg d=>by
  rcases d with rfl | d
  ·exact x.nb
  ·exact(x.nv g d).1
 have O: ¬(p=H∨v.ownBlock=some p):=by
  rintro(e | e)
  ·exact x.ne e
  ·exact(x.nv p e).2 rfl
 refine h.strPut U N ⟨H,v',st.away.blk x.blk O,st.buf,Y,λb G=> ?_,Or.inl x.np,Or.inl x.nb,x.ne,λg d=> ?_⟩ a
 ·rcases G with G | G
  ·exact Nat.lt_of_lt_of_le (x.sub b G) a.size
  ·exact G.2
 ·have J:g<w'.heap.size:=by
   rcases st.buf.row.2 with ⟨e,_⟩ | ⟨ab,cap,cur,e,_,I,_⟩
   ·rw[e] at d;cases d
   ·rw[e] at d;injection d with d
    have:=lt_of_block I;simp only at d;omega
  rcases st.own with e | ⟨g',e,hge⟩
  ·rw[e] at d;exact⟨Or.inl (x.nv g d).1,(x.nv g d).2⟩
  ·rw[e] at d;injection d with d
   subst d;exact⟨Or.inr ⟨hge,J⟩,λaa=>by have:=lt_of_block x.blk;omega⟩
end
section
variable {w0 w w':World} {k:RmK} {s:RmS} {F:List Nat}
theorem He (h:qF w0 w k s F) (N sub:Int) (acc:Bool) {l:LnS} (aj:qh s.lanes sub=some l):
  Calls prog 81 #[γ k.R,θ #[ι N,ι sub],acc] w λe w'=>e= .returned (.tuple #[])/\qF w0 w' k (s.choose sub) F/\qt F w w':=by
 have ad:=κ (h.stay (qa.alloc w (.cells #[ι N,ι sub] 37)));have aq:=h.adds (qa.alloc w (.cells #[ι N,ι sub] 37)) (Fn:=[w.heap.size]) (λb d=>by simp at d;subst d;simp);have ab:=κ (qk w (.cells #[ι N,ι sub] 37));obtain⟨W1,ai⟩:=ν (w.alloc (.cells #[ι N,ι sub] 37));rw[ai] at aq ab ad;obtain⟨T,vp,aR,H⟩:=aq;have U:=κ H;obtain⟨p,av,au⟩:=H.laneAt aj;have aE:=κ au;have an:=κ av;have ac:=κ aj;have aJ: ¬T k.R= .lane sub:=by rw[(H.all .room).1];simp
 have aI: ¬T k.ML= .lane sub:=by rw[(H.all .lns).1];simp
 have aH: ¬T w.heap.size= .lane sub:=by rw[(H.law w.heap.size η).1];simp
 have az:=λ(x:qu (λb=>T b= .lane sub) W1)=>β12 (x.h.blk U.o.blk aJ)
 have aB:=λ(x:qu (λb=>T b= .lane sub) W1)=>β1 (x.h.blk ab.o aH)
 have aA: ∀x:qu (λb=>T b= .lane sub) W1,(Instr.lookup 90 (.map (some k.ML)) (ι sub) false).run prog x.w'= .ok (γ p) x.w':=λx=>by
  have:=xo (U.o.lnm.away x.h aI) sub false;rw[an.o] at this;exact this
 have am:=κ (λw (m:qa W1 w)=>Du (aE.o.on m));obtain⟨ax,id,J,ok,ah⟩: ∃ax id J ok,qN l=(ax,id,J,ok):=⟨_,_,_,_,rfl⟩;rw[ah] at am;have ao:=κ ah;clear h H aj av au ah
 go_enter func81,ntmps81
 go_upto_region 1 with fail
 (try rw[ai])
 clear ai;refine QN (λb=>T b= .lane sub) W1 15 15 [7] ?_
 refine Qs7 ?_
 (refine Ql ?_;intro K G)
 go_call am.o _ (qa.drewN _ 1) as e w2 ⟨rfl,aw,af⟩;obtain⟨ag,t2⟩:=(U.o.on (qa.drewN W1 1)).lanePut ac.o an.o aw af;have al:=κ ag;have ae:Hid (qt ([w.heap.size]++F) W1 w2):=κ ((ag |> λ_=>(U.o.at.stay (qa.drewN W1 1))).trans t2);have ak:Hid (qg (λb=>T b= .lane sub) W1 w2):=κ (((qg.refl _ _).drewN 1).trans af);clear aw af ag t2;refine⟨_,rfl,qi ak.o,G _ _ ?_⟩;clear G K
 iterate 7 (refine qD rfl rfl (qi ak.o) ?_;intro K G;go_big_quiet_op;go_big_quiet_on)
 refine qv ?_;clear az aB aA;have aD:=κ (ae.o.blk η ab.o);obtain⟨c,aa⟩:=ν ((ok&& !decide (J=0)));have O:=κ aa
 go_upto_region 2 with fail
 go_cut [25] from 21 (λv aM=>v= μ c/\aM=w2)
 case first=>
  cases ok with
  | false=>
   clear aa;go_wp2;go_meet;exact⟨by rw[<-O.o];rfl,rfl⟩
  | true=>
   clear aa;go_wp2;go_meet;exact⟨by rw[<-O.o];by_cases e:J=0<;>simp[e],rfl⟩
 case rest=>
 obtain⟨rfl,aG⟩:=hcut;obtain rfl:=aG.symm;clear aa;cases c with
 | false=>
  go_wp2
  (refine bodyPost_end (v:= .tuple #[]) ?re1 rfl ?_;(case re1=>simp[results,results81,go_sem]))
  exact⟨rfl,by unfold RmS.choose;rw[ac.o];simp only[ao.o];rw[O.o];exact al.o.sub (λb d=>List.mem_append_right _ d),ad.o.trans (ae.o.sub (λb d=>List.mem_append_right _ d))⟩
 | true=>
  obtain⟨aP,aQ,aS,I⟩:=al.o;have Y:=κ I;have aK:k.R≠k.b:=λe=>by
   obtain⟨_,d,_⟩:=I.all .book;rw[<-e,(I.all .room).1] at d;cases d
  have aL:w.heap.size≠k.b:=λe=>by
   obtain⟨_,d,_⟩:=I.all .book;rw[<-e,(I.law w.heap.size η).1] at d;cases d
  have aN:=λ(x:qu (λb=>b=k.b) w2)=>β0 (x.h.blk Y.o.blk aK)
  have aO:=λ(x:qu (λb=>b=k.b) w2)=>β1 (x.h.blk aD.o aL)
  clear I
  go_upto_region 3 with fail
  refine QN (λb=>b=k.b) w2 9 9 [8] ?_
  refine Qs8 ?_
  (refine Ql ?_;intro K G)
  go_call gO (Y.o.on (qa.drewN w2 1)).bok sub id J as e w4 ⟨rfl,ap,a4⟩;obtain⟨ar,t4⟩:=(Y.o.on (qa.drewN w2 1)).book ap a4;have aC:=κ ar;have aF:Hid (qt ([w.heap.size]++F) w2 w4):=κ ((Y.o.at.stay (qa.drewN w2 1)).trans t4);have ay:Hid (qg (λb=>b=k.b) w2 w4):=κ (((qg.refl _ _).drewN 1).trans a4);clear ap a4 ar t4;refine⟨_,rfl,qi ay.o,G _ _ ?_⟩;clear G K;refine qv ?_;go_wp2
  (refine bodyPost_end (v:= .tuple #[]) ?re2 rfl ?_;(case re2=>simp[results,results81,go_sem]))
  exact⟨rfl,by unfold RmS.choose;rw[ac.o];simp only[ao.o];rw[O.o];exact aC.o.sub (λb d=>List.mem_append_right _ d),ad.o.trans ((ae.o.trans aF.o).sub (λb d=>List.mem_append_right _ d))⟩
theorem El (h:qF w0 w k s F) (J sub:Int) (acc:Bool) {l:LnS} (aj:qh s.lanes sub=some l):
  Calls prog 82 #[γ k.R,θ #[ι J,ι sub],acc] w λe w'=>e= .returned (.tuple #[])/\qF w0 w' k (s.rewrite sub) F/\qt F w w':=by
 have ac:=κ (h.stay (qa.alloc w (.cells #[ι J,ι sub] 37)));have aq:=h.adds (qa.alloc w (.cells #[ι J,ι sub] 37)) (Fn:=[w.heap.size]) (λb d=>by simp at d;subst d;simp);have aa:=κ (qk w (.cells #[ι J,ι sub] 37));obtain⟨W1,ai⟩:=ν (w.alloc (.cells #[ι J,ι sub] 37));rw[ai] at aq aa ac;obtain⟨T,vp,aR,H⟩:=aq;have O:=κ H;obtain⟨p,av,au⟩:=H.laneAt aj;have aE:=κ au;have an:=κ av;have ab:=κ aj;have aJ: ¬T k.R= .lane sub:=by rw[(H.all .room).1];simp
 have aI: ¬T k.ML= .lane sub:=by rw[(H.all .lns).1];simp
 have aH: ¬T w.heap.size= .lane sub:=by rw[(H.law w.heap.size η).1];simp
 have az:=λ(x:qu (λb=>T b= .lane sub) W1)=>β12 (x.h.blk O.o.blk aJ)
 have aB:=λ(x:qu (λb=>T b= .lane sub) W1)=>β1 (x.h.blk aa.o aH)
 have aA: ∀x:qu (λb=>T b= .lane sub) W1,(Instr.lookup 90 (.map (some k.ML)) (ι sub) false).run prog x.w'= .ok (γ p) x.w':=λx=>by
  have:=xo (O.o.lnm.away x.h aI) sub false;rw[an.o] at this;exact this
 have am:=κ (λw (m:qa W1 w)=>UF (aE.o.on m));obtain⟨ax,id,af,ok,ah⟩: ∃ax id af ok,qL l=(ax,id,af,ok):=⟨_,_,_,_,rfl⟩;rw[ah] at am;have ao:=κ ah;clear h H aj av au ah
 go_enter func82,ntmps82
 go_upto_region 1 with fail
 (try rw[ai])
 clear ai;refine QN (λb=>T b= .lane sub) W1 15 15 [7] ?_
 refine Qs7 ?_
 (refine Ql ?_;intro K G)
 go_call am.o _ (qa.drewN _ 1) as e w2 ⟨rfl,aw,ae⟩;obtain⟨ag,t2⟩:=(O.o.on (qa.drewN W1 1)).lanePut ab.o an.o aw ae;have al:=κ ag;have ad:Hid (qt ([w.heap.size]++F) W1 w2):=κ ((ag |> λ_=>(O.o.at.stay (qa.drewN W1 1))).trans t2);have ak:Hid (qg (λb=>T b= .lane sub) W1 w2):=κ (((qg.refl _ _).drewN 1).trans ae);clear aw ae ag t2;refine⟨_,rfl,qi ak.o,G _ _ ?_⟩;clear G K
 iterate 7 (refine qD rfl rfl (qi ak.o) ?_;intro K G;go_big_quiet_op;go_big_quiet_on)
 refine qv ?_;clear az aB aA;have aD:=κ (ad.o.blk η aa.o);obtain⟨c,Y⟩:=ν ((ok&&af));have N:=κ Y
 go_upto_region 2 with fail
 go_cut [24] from 21 (λv aM=>v= μ c/\aM=w2)
 case first=>
  cases ok with
  | false=>
   clear Y;go_wp2;go_meet;exact⟨by rw[<-N.o];rfl,rfl⟩
  | true=>
   clear Y;go_wp2;go_meet;exact⟨by rw[<-N.o];rfl,rfl⟩
 case rest=>
 obtain⟨rfl,aG⟩:=hcut;obtain rfl:=aG.symm;clear Y;cases c with
 | false=>
  go_wp2
  (refine bodyPost_end (v:= .tuple #[]) ?re3 rfl ?_;(case re3=>simp[results,results82,go_sem]))
  exact⟨rfl,by unfold RmS.rewrite;rw[ab.o];simp only[ao.o];rw[N.o];exact al.o.sub (λb d=>List.mem_append_right _ d),ac.o.trans (ad.o.sub (λb d=>List.mem_append_right _ d))⟩
 | true=>
  obtain⟨aP,aQ,aS,I⟩:=al.o;have U:=κ I;have aK:k.R≠k.b:=λe=>by
   obtain⟨_,d,_⟩:=I.all .book;rw[<-e,(I.all .room).1] at d;cases d
  have aL:w.heap.size≠k.b:=λe=>by
   obtain⟨_,d,_⟩:=I.all .book;rw[<-e,(I.law w.heap.size η).1] at d;cases d
  have aN:=λ(x:qu (λb=>b=k.b) w2)=>β0 (x.h.blk U.o.blk aK)
  have aO:=λ(x:qu (λb=>b=k.b) w2)=>β1 (x.h.blk aD.o aL)
  clear I
  go_upto_region 3 with fail
  refine QN (λb=>b=k.b) w2 8 8 [7] ?_
  refine Qs7 ?_
  (refine Ql ?_;intro K G)
  go_call gO (U.o.on (qa.drewN w2 1)).bok sub id 6 as e w4 ⟨rfl,ap,a4⟩;obtain⟨ar,t4⟩:=(U.o.on (qa.drewN w2 1)).book ap a4;have aC:=κ ar;have aF:Hid (qt ([w.heap.size]++F) w2 w4):=κ ((U.o.at.stay (qa.drewN w2 1)).trans t4);have ay:Hid (qg (λb=>b=k.b) w2 w4):=κ (((qg.refl _ _).drewN 1).trans a4);clear ap a4 ar t4;refine⟨_,rfl,qi ay.o,G _ _ ?_⟩;clear G K;refine qv ?_;go_wp2
  (refine bodyPost_end (v:= .tuple #[]) ?re4 rfl ?_;(case re4=>simp[results,results82,go_sem]))
  exact⟨rfl,by unfold RmS.rewrite;rw[ab.o];simp only[ao.o];rw[N.o];exact aC.o.sub (λb d=>List.mem_append_right _ d),ac.o.trans ((ad.o.trans aF.o).sub (λb d=>List.mem_append_right _ d))⟩
end
section
variable {w0 w w':World} {k:RmK} {s:RmS} {F:List Nat}
theorem Km (b:Bk) (x i f:Int):(jn b x i f).length<=b.length+1:=by
 unfold jn zg;split
 ·split
  ·split
   ·split
    ·exact Cv _ _
    ·exact Nat.le_succ _
   ·exact Nat.le_succ _
  ·exact Nat.le_succ _
 ·exact Nat.le_succ _
theorem Mh (h:qF w0 w k s F) (sub:Int) (H:s.book.length<=1000000):
  Calls prog 107 #[γ k.B,ι sub,ι 7] w λe w'=>(∃v,e= .returned v)/\qF w0 w' k {s with book:=vQ s.book sub 7} F/\qt F w w'/\qg (λx=>x=k.b) w w':=by
 obtain⟨T,vp,I,x⟩:=h;refine(ND x.bok sub 7 H).mono ?_;rintro e w' ⟨⟨v,rfl,_⟩,b,a⟩;obtain⟨d,G⟩:=x.book b a;exact⟨⟨v,rfl⟩,d,G,a⟩
theorem LE (h:qF w0 w k s F) (sub:Int):
  Calls prog 123 #[γ k.tb,ι sub] w λe w'=>(∃v,e= .returned v)/\qF w0 w' k {s with tab:=(zL s.tab sub).1} F/\qt F w w'/\qg (λx=>x=k.td) w w':=by
 obtain⟨T,vp,H,x⟩:=h;refine(Zv x.tab sub).mono ?_;rintro e w' ⟨rfl,b,a⟩;obtain⟨d,G⟩:=x.table b (a.mono λ_ e=>Or.inr (Or.inr e));exact⟨⟨_,rfl⟩,d,G,a⟩
theorem LC (h:qF w0 w k s F) (ab sub:Int) (acc:Bool) {l:LnS} (az:qh s.lanes sub=some l) (bq:l.W.length<=1000000) (bA:s.book.length<=900000):
  Calls prog 77 #[γ k.R,θ #[ι ab,ι sub],acc] w λe w'=>e= .returned (.tuple #[])/\qF w0 w' k (s.write sub acc) F/\qt F w w':=by
 have aI:=κ (h.stay (qa.alloc w (.cells #[ι ab,ι sub] 37)));have aN:=h.adds (qa.alloc w (.cells #[ι ab,ι sub] 37)) (Fn:=[w.heap.size]) (λb d=>by simp at d;subst d;simp);have ac:=κ (qk w (.cells #[ι ab,ι sub] 37));obtain⟨W1,aw⟩:=ν (w.alloc (.cells #[ι ab,ι sub] 37));rw[aw] at aN ac aI;obtain⟨T,vp,bF,aB⟩:=aN;have ad:=κ aB;obtain⟨p,aU,aS⟩:=aB.laneAt az;have bm:=κ aS;have ao:=κ aU;have aH:=κ az;have bc:=λ(x:qp W1)=>β12 (qc x.h ad.o.blk)
 have be:=λ(x:qp W1)=>β1 (qc x.h ac.o)
 have bd: ∀x:qp W1,(Instr.lookup 90 (.map (some k.ML)) (ι sub) false).run prog x.w'= .ok (γ p) x.w':=λx=>by
  have:=xo (ad.o.lnm.more x.h) sub false;rw[ao.o] at this;exact this
 have aF:=κ (λw (m:qa W1 w)=>AY (bm.o.on m) bq acc);obtain⟨aa,id,H,ok,av⟩: ∃aa id H ok,qH l acc=(aa,id,H,ok):=⟨_,_,_,_,rfl⟩;rw[av] at aF;have bn:=κ av;clear h aB az aU aS av
 go_enter func77,ntmps77
 go_upto_region 1 with fail
 (try rw[aw])
 clear aw;refine qz _ (qa.refl _) ξ ξ ?_
 repeat (go_big_quiet_step (fail))
 refine wpQuiet_nil ?_;intro _ br;obtain⟨aY,rfl⟩:=br;obtain⟨W2,ax⟩:=ν (aY.w');have aq:Hid (qa W1 W2):=κ (by rw[<-ax];exact aY.h);rw[ax];clear ax bc be bd;obtain⟨c,aR⟩:=ν ((ok&&decide (H=1)));have an:=κ aR;clear aR
 go_upto_region 3 with (go_at_call 121;(go_call aF.o _ aq.o as e G ⟨rfl,aO,a3⟩;obtain⟨aM,t3⟩:=(ad.o.on aq.o).lanePut aH.o ao.o aO a3;have aD:=κ aM;have ar:Hid (qt ([w.heap.size]++F) W1 G):=κ ((ad.o.at.stay aq.o).trans t3);clear aO a3 aM t3))
 go_cut [28] from 24 (λv aj=>v= μ c/\aj=G)
 case first=>
  cases ok with
  | false=>
   go_wp2;go_meet;exact⟨by rw[<-an.o];rfl,rfl⟩
  | true=>
   go_wp2;go_meet;exact⟨by rw[<-an.o];by_cases e:H=1<;>simp[e],rfl⟩
 case rest=>
 obtain⟨rfl,bp⟩:=hcut;obtain rfl:=bp.symm
 go_upto_if 28 with fail
 go_cut [] from 29 (λaj=>qF w0 aj k {s with lanes:=qw s.lanes sub aa,book:=if c then jn s.book sub id H else s.book} ([w.heap.size]++F)/\qt ([w.heap.size]++F) G aj)
 case first=>
  cases c with
  | false=>
   go_wp2;go_meet;exact⟨aD.o,qt.refl _ _⟩
  | true=>
   have bi:=κ (ar.o.blk η ac.o);obtain⟨bw,bC,bG,U⟩:=aD.o;have ae:=κ U;have bt:k.R≠k.b:=λe=>by
    obtain⟨_,d,_⟩:=U.all .book;rw[<-e,(U.all .room).1] at d;cases d
   have bu:w.heap.size≠k.b:=λe=>by
    obtain⟨_,d,_⟩:=U.all .book;rw[<-e,(U.law (w.heap.size) η).1] at d;cases d
   have ak:=λ(x:qu (λb=>b=k.b) G)=>β0 (x.h.blk ae.o.blk bt)
   have al:=λ(x:qu (λb=>b=k.b) G)=>β1 (x.h.blk bi.o bu)
   clear U
   go_upto_region 4 with fail
   refine QN (λb=>b=k.b) G 9 9 [8] ?_
   refine Qs8 ?_
   (refine Ql ?_;intro K J)
   go_call gO (ae.o.on (qa.drewN G 1)).bok sub id H as e w4 ⟨rfl,aL,a4⟩;obtain⟨ai,t4⟩:=(ae.o.on (qa.drewN G 1)).book aL a4;have bf:=κ ai;have ah:Hid (qt ([w.heap.size]++F) G w4):=κ ((ae.o.at.stay (qa.drewN G 1)).trans t4);have aZ:Hid (qg (λb=>b=k.b) G w4):=κ (((qg.refl _ _).drewN 1).trans a4);clear aL a4 ai t4;refine⟨_,rfl,qi aZ.o,J _ _ ?_⟩;clear J K;refine qv ?_;go_wp2;go_meet;exact⟨bf.o,ah.o⟩
 case rest=>
 obtain⟨ai,t4⟩:=hcut;rename_i w4;have bj:=κ ((ar.o.trans t4).blk η ac.o);have ah:=κ (aI.o.trans ((ar.o.trans t4).sub (F':=F) (λb d=>List.mem_append_right _ d)));obtain⟨bx,bD,bH,aC⟩:=ai;have af:=κ aC;obtain⟨bv,aA,aT⟩:=aC.laneAt (x:=sub) (l:=aa) (xC _ _ _);obtain rfl:bv=p:=by rw[ao.o] at aA;injection aA with e;exact e.symm
 have am:=κ (JK aT);clear aC aA aT t4;obtain⟨au,ay⟩:=ν (aa.gone);rw[ay] at am;have bl:=κ ay;clear ay;have aG:Hid (s.write sub acc={s with lanes:=qw s.lanes sub aa,tab:=if au then (zL s.tab sub).1 else s.tab,book:=if au then vQ (if c then jn s.book sub id H else s.book) sub 7 else if c then jn s.book sub id H else s.book}):=κ (by unfold RmS.write;rw[aH.o];simp only[bn.o];rw[an.o,bl.o]);cases au with
 | false=>
  go_wp2_with (go_at_call 69;(go_call am.o as e w6 ⟨rfl,O⟩;have ag:=κ O;clear O))
  (refine bodyPost_end (v:= .tuple #[]) ?re1 rfl ?_;(case re1=>simp[results,results77,go_sem]))
  exact⟨rfl,by rw[aG.o];exact(af.o.on ag.o).at.sub (λb d=>List.mem_append_right _ d),ah.o.trans ((af.o.at.stay ag.o).sub (λb d=>List.mem_append_right _ d))⟩
 | true=>
  go_upto_region 6 with (go_at_call 69;(go_call am.o as e w6 ⟨rfl,O⟩;have ag:=κ O;have N:=κ (af.o.on O);have aE:=κ (qc O bj.o);clear O))
  have aV:k.R≠k.b:=λe=>by
   obtain⟨_,d,_⟩:=N.o.all .book;rw[<-e,(N.o.all .room).1] at d;cases d
  have aW:w.heap.size≠k.b:=λe=>by
   obtain⟨_,d,_⟩:=N.o.all .book;rw[<-e,(N.o.law (w.heap.size) η).1] at d;cases d
  have ak:=λ(x:qu (λb=>b=k.b) w6)=>β0 (x.h.blk N.o.blk aV)
  have al:=λ(x:qu (λb=>b=k.b) w6)=>β1 (x.h.blk aE.o aW)
  refine QN (λb=>b=k.b) w6 8 8 [7] ?_
  refine Qs7 ?_
  (refine Ql ?_;intro K J)
  go_call Mh (N.o.on (qa.drewN w6 1)).at sub (by have:=Km s.book sub id H;cases c<;>simp<;>omega) as e I ⟨⟨bB,rfl⟩,aP,aX,aK⟩;have bg:=κ aP;have aJ:Hid (qt ([w.heap.size]++F) w6 I):=κ ((N.o.at.stay (qa.drewN w6 1)).trans aX);have ba:Hid (qg (λb=>b=k.b) w6 I):=κ (((qg.refl _ _).drewN 1).trans aK);clear aP aX aK;refine⟨_,rfl,qi ba.o,J _ _ ?_⟩;clear J K ak al aV aW;refine qv ?_;have bk:=κ (aJ.o.blk η aE.o);obtain⟨bz,bE,bI,Y⟩:=bg.o;have ap:=κ Y;have bs:k.R≠k.td:=λe=>by
   obtain⟨_,_,_,d,_⟩:=Y.all .table;rw[<-e,(Y.all .room).1] at d;cases d
  have n2:w.heap.size≠k.td:=λe=>by
   obtain⟨_,_,_,d,_⟩:=Y.all .table;rw[<-e,(Y.law w.heap.size η).1] at d;cases d
  have ak:=λ(x:qu (λb=>b=k.td) I)=>β11 (x.h.blk ap.o.blk bs)
  have al:=λ(x:qu (λb=>b=k.td) I)=>β1 (x.h.blk bk.o n2)
  clear Y
  go_upto_region 7 with fail
  refine QN (λb=>b=k.td) I 7 7 [6] ?_
  refine Qs6 ?_
  (refine Ql ?_;intro K J)
  go_call LE (ap.o.on (qa.drewN I 1)).at sub as e w9 ⟨⟨v9,rfl⟩,aQ,t9,a9⟩;have bh:=κ aQ;have bo:Hid (qt ([w.heap.size]++F) I w9):=κ ((ap.o.at.stay (qa.drewN I 1)).trans t9);have bb:Hid (qg (λb=>b=k.td) I w9):=κ (((qg.refl _ _).drewN 1).trans a9);clear aQ t9 a9;refine⟨_,rfl,qi bb.o,J _ _ ?_⟩;clear J K;refine qv ?_;go_wp2
  (refine bodyPost_end (v:= .tuple #[]) ?re2 rfl ?_;(case re2=>simp[results,results77,go_sem]))
  exact⟨rfl,by rw[aG.o];exact bh.o.sub (λb d=>List.mem_append_right _ d),ah.o.trans (((af.o.at.stay ag.o).trans (aJ.o.trans bo.o)).sub (λb d=>List.mem_append_right _ d))⟩
end
theorem Ye (n sub:Int) (w:World):Calls prog 75 #[θ #[ι n,ι sub]] w λe w'=>e= .returned (ι (j7 n))/\qa w w':=by
 by_cases h2:n=2
 ·subst h2
  go_enter func75,ntmps75
  go_wp2;go_ret;exact⟨rfl,qa.alloc _ _⟩
 ·by_cases h3:n=3
  ·subst h3
   go_enter func75,ntmps75
   go_wp2;go_ret;exact⟨rfl,qa.alloc _ _⟩
  ·have e:j7 n=3:=by unfold j7;rw[if_neg h2,if_neg h3]
   have d:(n==2)=false:=by simp[h2]
   have G:(n==3)=false:=by simp[h3]
   rw[e];clear h2 h3 e
   go_enter func75,ntmps75
   go_wp2;go_ret;exact⟨rfl,qa.alloc _ _⟩
theorem Et (n sub:Int) (J:0<=n/\n<=4) (w:World):Calls prog 127 #[θ #[ι n,ι sub]] w λe w'=>e= .returned (.tuple #[θ #[ι (vW (n,sub)).1.1,ι (vW (n,sub)).1.2],μ (vW (n,sub)).2])/\qa w w':=by
 have d:=qk (w.alloc (.cells #[ι n,ι sub] 37)) (.cells #[ι 0,ι 0] 37);by_cases h0:n=0
 ·subst h0
  go_enter func127,ntmps127
  go_wp2
  (refine bodyPost_ret (v:= .tuple #[θ #[ι 0,ι 0],false]) ?rr1 rfl ?_;(case rr1=>(simp[results,results127,go_sem])))
  exact⟨rfl,ρ⟩
 ·by_cases h1:n=1
  ·subst h1
   go_enter func127,ntmps127
   go_wp2
   (refine bodyPost_ret (v:= .tuple #[θ #[ι 0,ι 0],true]) ?rr2 rfl ?_;(case rr2=>(simp[results,results127,go_sem])))
   exact⟨rfl,ρ⟩
  ·by_cases h2:n=2
   ·subst h2
    go_enter func127,ntmps127
    go_wp2
    (refine bodyPost_ret (v:= .tuple #[θ #[ι 1,ι 0],true]) ?rr3 rfl ?_;(case rr3=>(simp[results,results127,go_sem])))
    exact⟨rfl,ρ⟩
   ·have e:vW (n,sub)=((n-1,sub),true):=by unfold vW;rw[if_neg h0,if_neg h1,if_neg h2]
    have G:(n==0)=false:=by simp[h0]
    have H:(n==1)=false:=by simp[h1]
    have I:(n==2)=false:=by simp[h2]
    rw[e];clear e
    go_enter func127,ntmps127
    go_wp2
    (refine bodyPost_ret (v:= .tuple #[θ #[ι (n-1),ι sub],true]) ?rr4 rfl ?_;(case rr4=>(simp[results,results127,go_sem])))
    exact⟨rfl,ρ⟩
theorem Dp {J:Nat->Prop} {w:World} {p:Nat} {l:LnS} (h:zw J w p l) (n:Int) (N:n=1∨n=2∨n=3):
  Calls prog 126 #[γ p,ι n] w λe w'=>(∃v,e= .returned v/\w'.ownsRow w.heap.size 3 1 v (KP l n).length ((KP l n).map (Value.int .i64)))/\zw (xd J w w') w' p (vU l n)/\qg J w w':=by
 obtain⟨k,vo,rfl,x⟩:=h;rcases N with rfl | rfl | rfl
 ·refine(Yb x).mono ?_;rintro e w' ⟨d,G,H⟩;exact⟨d,⟨k,vo,rfl,G⟩,H.mono λb I=>x.muts b I⟩
 ·refine(Ya x).mono ?_;rintro e w' ⟨d,G,H⟩;exact⟨d,⟨k,vo,rfl,G⟩,H.mono λb I=>x.muts b I⟩
 ·refine(Z9 x).mono ?_;rintro e w' ⟨d,G,H⟩;exact⟨d,⟨k,vo,rfl,G⟩,H.mono λb I=>x.muts b I⟩
theorem Kk (n:Int):j7 n=1∨j7 n=2∨j7 n=3:=by
 unfold j7;split
 ·exact Or.inl rfl
 ·split
  ·exact Or.inr (Or.inl rfl)
  ·exact Or.inr (Or.inr rfl)
section
variable {T:Nat->Tg} {w0 w w':World} {k:RmK} {vp vr:Value} {s:RmS} {F:List Nat}
theorem DrJ.step' {w w':World} {R:Nat} {v v' G:Value} {b:Jb} {A:List Int} (d:DrJ w w' R v v' b G A):km w w' R v v' b:=⟨d.buf,d.away,d.own⟩
theorem Hb (h:RmX T w0 w k vp vr s F):
  Calls prog 124 #[γ k.RQ] w λe w'=>(∃d cap,e= .returned (δ d s.queue.length cap))/\qF w0 w' k {s with queue:=[]} F/\qt F w w'/\qg (RgB k.RQ k.AQ) w w':=by
 obtain⟨f,q,I,J,H,N,css,g,a⟩:=h.que;have ae: ∀c∈q,∃d n cp,c=[δ d n cp]:=λc ac=>by
  obtain⟨b,_,af⟩:=a.mem c ac;obtain⟨v,rfl,⟨d,cap,rfl,_⟩,_⟩:=af.read;exact⟨d,_,cap,rfl⟩
 refine(Ln w _ _ _ _ q I J H N css g ae).mono ?_;rintro e w' ⟨v,rfl,ad,⟨Y,O,U,g'⟩,G⟩;obtain⟨d,cap,rfl⟩:=zz ad;obtain⟨aa,ab⟩:=h.ring (q:=[]) G (λD _=>⟨Y,[],I,J,H,O,U,g',trivial⟩);rw[a.len];exact⟨⟨d,cap,rfl⟩,aa,ab,G⟩
end
theorem ZP {w:World} {base e:Nat} {v:Value} {L:List Int} (h:w.ownsRow base e 1 v L.length (L.map (Value.int .i64))):
  ∃oa cap,v= δ oa L.length cap/\L.length<=maxLen/\ ∀w':World,(∀g,base<=g->g<w.heap.size->w'.heap[g]? =w.heap[g]?)-> ∀i (hi:i<L.length),∃g,oa=some ⟨g,0,none⟩/\w'.cell? ⟨g,i,none⟩=some (ι L[i]):=by
 rcases id h.2 with ⟨rfl,d⟩ | ⟨g,cap,cur,rfl,G,H,J,N,_⟩
 ·exact⟨none,0,by rw[d],τ,λw' _ i hi=>by omega⟩
 ·refine⟨_,cap,rfl,τ,λw' e i hi=>⟨g,rfl, ?_⟩⟩;have I:=h.cellAt i τ;rw[World.cell?_of_block (e g G (lt_of_block H)),I,List.getElem?_map,List.getElem?_eq_getElem hi];rfl
section
variable {w0 w w':World} {k:RmK} {s:RmS} {F:List Nat}
theorem RmX.orgsF {T:Nat->Tg} {vp J:Value} (h:RmX T w0 w k vp J s F):
  Calls prog 64 #[γ k.R] w λe w'=> ∃G cap Fn,e= .returned (δ G s.origins.length cap)/\s.origins.length<=9/\RmX T w0 w' k vp J s (Fn++F)/\qa w w'/\
   ∀w'':World,(∀b∈Fn,w''.heap[b]? =w'.heap[b]?)-> ∀i (hi:i<s.origins.length),∃b,G=some ⟨b,0,none⟩/\w''.cell? ⟨b,i* 2,none⟩=some (ι s.origins[i].1)/\w''.cell? ⟨b,i* 2+1,none⟩=some (ι s.origins[i].2):=by
 refine h.orgsRow.mono ?_;rintro e w' ⟨v,rfl,r,m⟩;have U:s.origins.length<=9:=by
  unfold RmS.origins;exact Nat.le_trans (List.length_filter_le _ _) ζ
 obtain⟨G,cap,rfl,_,Y⟩:=Ua r;refine⟨G,cap,match G with | some a=>if w.heap.size<=a.block/\a.block<w'.heap.size then [a.block] else [] | none=>[],rfl,U,h.adds m (λb d=> ?_),m,λw'' I i hi=> ?_⟩
 ·cases G with
  | none=>simp at d
  | some a=>
   simp only at d;split at d
   ·rename_i H;simp at d;subst d;exact H
   ·simp at d
 ·obtain⟨b,rfl,O,H,N,c1⟩:=Y i hi;simp only[O,H,and_self,if_true] at I;have e:=I b η;exact⟨b,rfl,by rw[World.cell?_of_block e];exact N,by rw[World.cell?_of_block e];exact c1⟩
theorem KB (L:List Int): ∀s:RmS,(L.foldl RmS.drain1 s).strs=s.strs:=by
 induction L with
 | nil=>intro s;rfl
 | cons x L ih=>intro s;rw[List.foldl_cons,ih];rfl
theorem KA (s:RmS) (o x:Og):(qh (s.drainO o).strs x).isSome=(qh s.strs x).isSome:=by
 unfold RmS.drainO;cases ho:qh s.strs o with
 | none=>rfl
 | some t=>
  simp only[KB,qy];by_cases e:x=o
  ·rw[if_pos e,e,ho];rfl
  ·rw[if_neg e]
theorem Vb (L:List Og) (x:Og): ∀s:RmS,(qh (L.foldl RmS.drainO s).strs x).isSome=(qh s.strs x).isSome:=by
 induction L with
 | nil=>intro s;rfl
 | cons o L ih=>intro s;rw[List.foldl_cons,ih,KA]
theorem Q5 {j:Nat} (h:j<6):subIds.take (j+1)=subIds.take j++[(j:Int)]:=by
 have:j=0∨j=1∨j=2∨j=3∨j=4∨j=5:=by omega
 rcases this with rfl | rfl | rfl | rfl | rfl | rfl<;>rfl
theorem Wd (L:List Int): ∀s:RmS,(L.foldl RmS.drain1 s).ret=s.ret:=by
 induction L with
 | nil=>intro s;rfl
 | cons x L ih=>intro s;rw[List.foldl_cons,ih];rfl
theorem Wa (s:RmS) (o:Og):(s.drainO o).ret=s.ret:=by
 unfold RmS.drainO;cases qh s.strs o with
 | none=>rfl
 | some t=>simp only[Wd]
theorem Do (s:RmS) (w:Og):(s.drain w).ret=s.ret:=by
 unfold RmS.drain;split
 ·rfl
 ·split
  ·have: ∀(L:List Og) (s:RmS),(L.foldl RmS.drainO s).ret=s.ret:=by
    intro L
    induction L with
    | nil=>intro s;rfl
    | cons o L ih=>intro s;rw[List.foldl_cons,ih,Wa]
   exact this _ _
  ·unfold RmS.drainL;cases qh s.lanes w.2<;>rfl
theorem Xv (h:qF w0 w k s F) (sub id f:Int):
  Calls prog 122 #[θ #[γ k.B],ι sub,ι id,ι f] w λe w'=>e= .returned (.tuple #[])/\qF w0 w' k {s with book:=jn s.book sub id f} F/\qt F w w'/\qg (λb=>b=k.b) w w':=by
 obtain⟨T,vp,H,x⟩:=h;refine(gO x.bok sub id f).mono ?_;rintro e w' ⟨rfl,b,a⟩;obtain⟨d,G⟩:=x.book b a;exact⟨rfl,d,G,a⟩
theorem qF.blk (h:qF w0 w k s F): ∃vp d,w.heap[k.R]? =some (.cells (zH k vp d s) 95 (0,0)):=by
 obtain⟨T,vp,d,x⟩:=h;exact⟨vp,d,x.blk⟩
theorem qF.nb (h:qF w0 w k s F):k.R≠k.b/\(∀b∈F,b≠k.b)/\k.b<w.heap.size:=by
 obtain⟨T,vp,I,x⟩:=h;obtain⟨_,d,H⟩:=x.all .book;refine⟨λe=> ?_,λb G e=> ?_,H.map.lt⟩
 ·rw[<-e,(x.all .room).1] at d;cases d
 ·rw[<-e,(x.law b G).1] at d;cases d
def Im (s s':RmS):Prop:=s'.ret=s.ret/\s'.queue=s.queue/\s'.tab=s.tab/\s'.book=s.book/\s'.lanes=s.lanes/\s'.strs=s.strs/\s'.pks=s.pks/\s'.reqs=s.reqs/\s'.cfg=s.cfg
theorem qF.self (h:qF w0 w k s F) (a:qg (λb=>b=k.R) w w') {s':RmS} (blk: ∀vp d,w.heap[k.R]? =some (.cells (zH k vp d s) 95 (0,0))->w'.heap[k.R]? =some (.cells (zH k vp d s') 95 (0,0))) (r:Im s s'):qF w0 w' k s' F/\qt F w w':=by
 obtain⟨T,vp,d,x⟩:=h;obtain⟨I,J,N,O,U,Y,aa,ab,ac⟩:=r;refine x.self a (blk vp d x.blk) (λu H G y=> ?_);cases u<;>first | exact absurd rfl H | exact absurd rfl G | (unfold RmK.Holds at y ⊢;(try simp only[I,J,N,O,U,Y,aa,ab,ac]);(try exact y))
theorem qF.cell (h:qF w0 w k s F) (i:Nat) (v:Value) {s':RmS} (e: ∀vp d,(zH k vp d s).setIfInBounds i v=zH k vp d s') (r:Im s s'):qF w0 (w.setCell ⟨k.R,i,none⟩ v) k s' F/\qt F w (w.setCell ⟨k.R,i,none⟩ v):=
 h.self (qg.set (S:=λb=>b=k.R) (qg.refl _ _) (p:=⟨k.R,i,none⟩) rfl v) (λvp d b=>qA (qo b i v) (e vp d)) r
theorem Lf (h:qF w0 w k s F):w.cell? ⟨k.R,16,none⟩=some (ι s.cnt.lost)/\w.frozen? ⟨k.R,16,none⟩=false/\ ∃vp d,w.heap[k.R]? =some (.cells (zH k vp d s) 95 (0,0)):=by
 obtain⟨T,vp,d,x⟩:=h;exact⟨qb x.blk 16 rfl,qd x.blk 16,vp,d,x.blk⟩
theorem Nw (h:qF w0 w k s F) (w1 w2:Int) (acc:Bool) (cp:0<=w1/\w1<=4) (az:2<=w1->(qh s.lanes w2).isSome=true) (co:0<=s.cnt.lost/\s.cnt.lost<=1000000000):
  Calls prog 78 #[γ k.R,θ #[ι w1,ι w2],acc] w λe w'=>e= .returned (.tuple #[])/\qF w0 w' k (s.endW (w1,w2)) F/\qt F w w':=by
 have ca:=κ (h.stay (qa.alloc w (.cells #[ι w1,ι w2] 37)));have bB:=h.adds (qa.alloc w (.cells #[ι w1,ι w2] 37)) (Fn:=[w.heap.size]) (λb G=>by simp at G;subst G;simp);have aC:=κ (qk w (.cells #[ι w1,ι w2] 37));obtain⟨W1,bC⟩:=ν (w.alloc (.cells #[ι w1,ι w2] 37));rw[bC] at bB aC ca;have bl:=κ bB;have cY:=κ az;have cZ:=κ co;have dp:=β0 aC.o;obtain⟨cA,cB⟩:=cp;clear h bB az co
 go_enter func78,ntmps78
 go_upto_block 0 with fail
 (try rw[bC])
 clear bC
 go_cut [5,6,7,8,9,10,11,12] from 17 to 94 (λ_ _ _ _ _ _ _ _ cI=>qF w0 cI k (s.drain (w1,w2)) ([w.heap.size]++F)/\qt ([w.heap.size]++F) W1 cI)
 case first=>
  by_cases e0:w1=0
  ·subst e0;obtain⟨T,vp,bL,I⟩:=bl.o;have H:=κ I;have dy: ¬RgB k.RQ k.AQ k.R:=by
    obtain⟨cE,cF,_⟩:=I.all .queue;rintro(e | e)
    ·rw[<-e,(I.all .room).1] at cE;cases cE
    ·rw[<-e,(I.all .room).1] at cF;cases cF
   have bs:=λ(x:qu (RgB k.RQ k.AQ) W1)=>x.h.blk H.o.blk dy
   have dC:=λx=>β16 (bs x);have dB:=λx=>β10 (bs x);clear bs
   have dL:(s.queue.length:Int)<=8:=by have:=I.que.fit;omega
   obtain⟨dM,dN⟩:=cZ.o;clear I
   go_upto_region 8 with fail
   refine QN (RgB k.RQ k.AQ) W1 15 16 [9,12,13,15] ?_
   refine Qs9 ?_
   (refine Ql ?_;intro K d)
   go_call Hb (H.o.on (qa.drewN W1 1)) as e aS ⟨⟨cD,cap,rfl⟩,aK,cG,cf⟩;have aB:Hid (qg (RgB k.RQ k.AQ) W1 aS):=κ (((qg.refl _ _).drewN 1).trans cf);have dm:Hid (qt ([w.heap.size]++F) W1 aS):=κ ((H.o.at.stay (qa.drewN W1 1)).trans cG);have aD:=κ aK;clear aK cG cf;refine⟨_,rfl,qi aB.o,d _ _ ?_⟩;clear d K
   iterate 2 (refine qD rfl rfl (qi aB.o) ?_;intro K d;go_big_quiet_op;go_big_quiet_on)
   have di:=κ (Lf aD.o);obtain⟨dE,dG,aU⟩:=di.o
   (refine Ql ?_;intro K d)
   refine⟨qi aB.o,d _ _ ?_⟩;clear d K
   (refine Ql ?_;intro K d)
   refine⟨qi aB.o,d _ _ ?_⟩;clear d K
   iterate 1 (refine qD rfl rfl (qi aB.o) ?_;intro K d;go_big_quiet_op;go_big_quiet_on)
   (refine Qe ?_;intro K d)
   refine d _ _ ?_;clear d K;refine qv ?_;have af:=aD.o.cell 16 (ι (s.cnt.lost+s.queue.length)) (s':={s with queue:=[],cnt:={s.cnt with lost:=s.cnt.lost+s.queue.length}}) (λ_ _=>rfl) ⟨rfl,rfl,rfl,rfl,rfl,rfl,rfl,rfl,rfl⟩;have af:=κ af;go_wp2;go_meet;exact⟨af.o.1,dm.o.trans af.o.2⟩
  ·by_cases e1:w1=1
   ·subst e1;obtain⟨T,vp,bL,I⟩:=bl.o;have H:=κ I;clear I;obtain⟨O,bH⟩:=ν (s.origins);have bW:=κ bH;have bX:=κ H.o.orgsF;rw[bH] at bX;clear bH
    go_wp2_with (go_at_call 64;(go_call bX.o as e aR ⟨cD,cap,Fn,rfl,cj,cJ,cy,aO⟩;have bc:=κ aO;have cW:=κ cJ.at;have dg:=κ cy;have da:=κ cj;clear aO cJ cy cj))
    have dk:=κ (H.o.at.stay dg.o);have ba:Hid (s.drain (1,w2)=O.foldl RmS.drainO s):=κ (by rw[<-bW.o];rfl);have dK:=da.o
    go_loopw [63] (λab wr=> ∃j:Nat,j<=O.length/\ab= ι j/\qF w0 wr k ((O.take j).foldl RmS.drainO s) (Fn++([w.heap.size]++F))/\qt (Fn++([w.heap.size]++F)) aR wr) (λab _=>O.length-(intOf ab).toNat)
    case atStart=>exact⟨0,τ,rfl,cW.o,qt.refl _ _⟩
    case round=>
     obtain⟨j,dv,rfl,N,J⟩:=hrel;have ax:=κ J;by_cases hlt:j<O.length
     ·have bF:(j:Int)<(O.length:Int):=by omega
      obtain⟨g,rfl,bA,c1⟩:=bc.o wr (λb G=>J.2 b (by simp[G])) j hlt;have br:Hid (O.take (j+1)=O.take j++[O[j]]):=κ (by rw[List.take_add_one,List.getElem?_eq_getElem hlt];rfl);have cl:(qh ((O.take j).foldl RmS.drainO s).strs O[j]).isSome=true:=by
       rw[Vb];have:O[j]∈s.origins:=by rw[bW.o];exact List.getElem_mem hlt
       obtain⟨t,J⟩:=yB this;rw[J];rfl
      obtain⟨t,bI⟩:=Option.isSome_iff_exists.1 cl;have cd:=κ bI;clear cl J;generalize O[j]=o at *;generalize cu:(O.take j).foldl RmS.drainO s=sj at *;have dc:=κ cu;clear cu;obtain⟨U,o2⟩:=o;simp only at bA c1;obtain⟨aa,bd⟩:=ν (wr.alloc (.cells #[ι U,ι o2] 58));have ce:Hid (qa wr aa):=κ (by rw[<-bd];exact qa.alloc _ _);have bO:Hid (aa.heap[wr.heap.size]? =some (.cells #[ι U,ι o2] 58 (0,0))):=κ (by rw[<-bd];exact qk wr _);have bx:=κ (ax.o.trans (N.stay ce.o));obtain⟨ag,dz,dA,cw⟩:=N;have ai:RmX ag w0 aa k dz dA sj ([wr.heap.size]++(Fn++([w.heap.size]++F))):=cw.adds ce.o (λb G=>by simp at G;subst G;exact⟨Nat.le_refl _,lt_of_block bO.o⟩);have aF:=κ ai;obtain⟨p,dj,v,aN,cx⟩:=ai.strAt bI;have ap:=κ cx;have aE:=κ aN;have bK: ¬ag k.R= .str (U,o2):=by rw[(ai.all .room).1];simp
      have bJ: ¬ag k.MS= .str (U,o2):=by rw[(ai.all .sts).1];simp
      have dx: ¬ag wr.heap.size= .str (U,o2):=by rw[(ai.law wr.heap.size η).1];simp
      have cN:=λ(x:qu (λb=>ag b= .str (U,o2)/\b≠p) aa)=>β13 (x.h.blk aF.o.blk (λq=>bK q.1))
      have bt:=λ(x:qu (λb=>ag b= .str (U,o2)/\b≠p) aa)=>x.h.blk bO.o (λq=>dx q.1)
      have aw:=λx=>β0 (bt x);have aX:=λx=>β1 (bt x);clear bt
      have bk: ∀x:qu (λb=>ag b= .str (U,o2)/\b≠p) aa,(Instr.lookup 91 (.map (some k.MS)) (θ #[ι U,ι o2]) false).run prog x.w'= .ok (γ p) x.w':=λx=>by
       have:=yf (aF.o.stm.away x.h (λq=>bJ q.1)) (U,o2) false;rw[aE.o] at this;exact this
      have cO:=λ(x:qu (λb=>ag b= .str (U,o2)/\b≠p) aa)=>β0 (x.h.blk ap.o.blk (λq=>q.2 rfl))
      clear cw ai cx aN bI;have bU:Hid (∀x,(thJ t.buf.holds).foldl RmS.drain1 {sj with strs:=qw sj.strs (U,o2) {t with buf:=vV t.buf}}=x->sj.drainO (U,o2)=x):=κ (λx e=>by unfold RmS.drainO;rw[cd.o];exact e)
      go_upto_region 13 with fail
      (try rw[bd])
      clear bd bA c1;refine zo (λb=>ag b= .str (U,o2)/\b≠p) aa 12 [(0,false),(1,false),(2,false),(3,false),(4,false),(5,false),(6,false),(7,false),(8,false),(11,false),(9,true),(10,false)] ξ ξ ?_
      refine ED ?_
      (refine Ql ?_;intro K d)
      go_call Wz t.buf ap.o.ok dj v _ (ap.o.buf.on (qa.drewN aa 1)) as e w4 ⟨v4,rfl,v5,aI,_⟩;obtain⟨ch,t4⟩:=(aF.o.on (qa.drewN aa 1)).strBuf cd.o aE.o (ap.o.on (qa.drewN aa 1)) aI.step' aI.ok
      have bN:Hid (qg (λb=>ag b= .str (U,o2)/\b≠p) aa w4):=κ (((qg.refl _ _).drewN 1).trans (aI.away.mono (λb G=>by
       rcases G with rfl | G
       ·exact⟨ap.o.nb,Ne.symm ap.o.ne⟩
       ·exact ap.o.nv _ G)))
      obtain⟨dO,dF,rfl,aL,cr⟩:=ZP aI.row;have bZ:=κ cr;have cV:=κ ch;have dl:=κ ((aF.o.at.stay (qa.drewN aa 1)).trans t4);have bp:Hid (k.b<aa.heap.size):=κ aF.o.at.nb.2.2;clear cr ch t4 aI;refine⟨_,rfl,qi bN.o,d _ _ ?_⟩;clear d K;obtain⟨L,ao⟩:=ν (thJ t.buf.holds);rw[ao] at bZ bU aL;unfold maxLen at aL;simp only[ao];clear ao
      iterate 1 (refine qD rfl rfl (qi bN.o) ?_;intro K d;go_big_quiet_op;go_big_quiet_on)
      refine qv ?_;clear cN bk cO aw aX;generalize {sj with strs:=qw sj.strs (U,o2) {t with buf:=vV t.buf}}=s4 at *;go_wp2;obtain⟨aA,rfl⟩: ∃aA:World,aA=wr:=⟨_,rfl⟩
      go_loopw [78] (λab wr=> ∃i:Nat,i<=L.length/\ab= ι i/\qF w0 wr k ((L.take i).foldl RmS.drain1 s4) ([aA.heap.size]++(Fn++([w.heap.size]++F)))/\qt ([aA.heap.size]++(Fn++([w.heap.size]++F))) w4 wr/\qg (λb=>b=k.b) w4 wr) (λab _=>L.length-(intOf ab).toNat)
      case atStart=>exact⟨0,τ,rfl,cV.o,qt.refl _ _,qg.refl _ _⟩
      case round=>
       obtain⟨i,hi,rfl,N,J,ac⟩:=hrel;have an:=κ N;have cc:=κ J;have bS:=κ ac;clear N J ac;by_cases hlt2:i<L.length
       ·have du:(i:Int)<(L.length:Int):=by omega
        obtain⟨dH,rfl,c2⟩:=bZ.o wr (λb bf ds=>bS.o.block b ds (by have:=bp.o;have bf:aa.heap.size<=b:=bf;omega)) i hlt2;have dd:Hid (L.take (i+1)=L.take i++[L[i]]):=κ (by rw[List.take_add_one,List.getElem?_eq_getElem hlt2];rfl);generalize L[i]=id at *;generalize ct:(L.take i).foldl RmS.drain1 s4=s5 at *;have db:=κ ct;clear ct;go_wp2;obtain⟨bi,cv⟩: ∃bi:World,bi=wr:=⟨_,rfl⟩;have dD:=κ cv;obtain rfl:=cv
        go_loopw [82,10] (λab dP wr=> ∃n:Nat,n<=6/\ab= ι n/\qF w0 wr k {s5 with book:=xF s5.book (subIds.take n) id 8} ([aA.heap.size]++(Fn++([w.heap.size]++F)))/\qt ([aA.heap.size]++(Fn++([w.heap.size]++F))) bi wr/\qg (λb=>b=k.b) bi wr) (λab _ _=>6-(intOf ab).toNat)
        case atStart=>exact⟨0,τ,rfl,an.o,qt.refl _ _,qg.refl _ _⟩
        case round=>
         obtain⟨n,cp,rfl,N,J,ac⟩:=hrel;have bY:=κ N;have cb:=κ J;have bQ:=κ ac;obtain⟨aj,ak,aU⟩:=N.blk;have bA:=β0 aU;clear N J ac;by_cases hlt3:n<6
         ·have dw:(n:Int)<6:=by omega
          have de:=κ (Q5 hlt3)
          go_wp2_with (go_at_call 122;(go_call Xv bY.o (n:Int) id 8 as e cH ⟨rfl,aJ,aQ,aH⟩;have bm:=κ aJ;have bz:=κ aQ;have aT:=κ aH;clear aJ aQ aH))
          go_roundw
          case rel=>exact⟨n+1,τ,by go_num,by have:=bm.o;unfold xF at this ⊢;rw[de.o,List.foldl_append];exact this,cb.o.trans bz.o,bQ.o.trans aT.o⟩
          case measure=>simp[intOf];omega
         ·obtain rfl:n=6:=by omega
          have dw: ¬((6:Nat):Int)<6:=by omega
          go_wp2;go_roundw
          case rel=>exact⟨i+1,τ,by go_num,by rw[dd.o,List.foldl_append,db.o];exact bY.o,cc.o.trans cb.o,bS.o.trans bQ.o⟩
          case measure=>simp[intOf];omega
       ·obtain rfl:i=L.length:=by omega
        have du: ¬(L.length:Int)<(L.length:Int):=by omega
        go_wp2;go_roundw
        case rel=>exact⟨j+1,τ,by go_num,by rw[br.o,List.foldl_append,dc.o];have:=an.o;rw[List.take_length] at this;rw[<-bU.o _ rfl] at this;obtain⟨ae,aj,ak,Y⟩:=this;exact⟨ae,aj,ak,Y.sub (λb G=>List.mem_append_right _ G)⟩,bx.o.trans ((dl.o.trans cc.o).sub (λb G=>List.mem_append_right _ G))⟩
        case measure=>simp[intOf];omega
     ·obtain rfl:j=O.length:=by omega
      have bF: ¬(O.length:Int)<(O.length:Int):=by omega
      go_wp2;go_meet;exact⟨by rw[ba.o];have:=N;rw[List.take_length] at this;obtain⟨ae,aj,ak,Y⟩:=this;exact⟨ae,aj,ak,Y.sub (λb G=>List.mem_append_right _ G)⟩,(dk.o.trans (ax.o.sub (λb G=>List.mem_append_right _ G)))⟩
   ·have ci:2<=w1:=by omega
    obtain⟨T,vp,bL,I⟩:=bl.o;have H:=κ I;obtain⟨l,az⟩:=Option.isSome_iff_exists.1 (cY.o ci);obtain⟨p,aN,cn⟩:=I.laneAt az;have cX:=κ cn;have aE:=κ aN;have bV:=κ az;have bK: ¬T k.R= .lane w2:=by rw[(I.all .room).1];simp
    have bJ: ¬T k.ML= .lane w2:=by rw[(I.all .lns).1];simp
    have bh: ¬T w.heap.size= .lane w2:=by rw[(I.law w.heap.size η).1];simp
    have cM:=λ(x:qu (λb=>T b= .lane w2) W1)=>β12 (x.h.blk H.o.blk bK)
    have bu:=λ(x:qu (λb=>T b= .lane w2) W1)=>x.h.blk aC.o bh
    have cQ:=λx=>β0 (bu x);have cP:=λx=>β1 (bu x);clear bu
    have bk: ∀x:qu (λb=>T b= .lane w2) W1,(Instr.lookup 90 (.map (some k.ML)) (ι w2) false).run prog x.w'= .ok (γ p) x.w':=λx=>by
     have:=xo (H.o.lnm.away x.h bJ) w2 false;rw[aE.o] at this;exact this
    have dr:(w1==0)=false:=by simp[e0]
    have bf:(w1==1)=false:=by simp[e1]
    have am:Hid (¬w1=0/\ ¬w1=1):=κ ⟨e0,e1⟩;clear I az aN cn e0 e1 cA cB ci
    go_upto_region 2 with fail
    refine zo (λb=>T b= .lane w2) W1 12 [(0,false),(1,false),(2,false),(3,false),(4,false),(5,false),(6,false),(7,false),(11,false),(8,true),(9,true),(10,false)] ξ ξ ?_
    refine Qs9 ?_
    (refine Ql ?_;intro K d)
    go_call Ye w1 w2 _ as e aS ⟨rfl,md⟩;have ay:Hid (qa W1 aS):=κ ((qa.drewN W1 1).trans md);clear md;refine⟨_,rfl,qi (qg.of_more ay.o),d _ _ ?_⟩;clear d K
    (refine Ql ?_;intro K d)
    go_call Dp (cX.o.on ay.o) (j7 w1) (Kk w1) as e aR ⟨⟨v3,rfl,cq⟩,ai,a3⟩;obtain⟨cg,t3⟩:=(H.o.on ay.o).lanePut bV.o aE.o ai a3;have bM:Hid (qg (λb=>T b= .lane w2) W1 aR):=κ ((qg.of_more ay.o).trans a3);have bP:=κ cg;have bx:Hid (qt ([w.heap.size]++F) W1 aR):=κ ((H.o.at.stay ay.o).trans t3);obtain⟨cD,cap,rfl,aL,aO⟩:=ZP cq;have bc:=κ aO;clear cq ai a3 cg t3 aO;refine⟨_,rfl,qi bM.o,d _ _ ?_⟩;clear d K;obtain⟨L,ao⟩:=ν (KP l (j7 w1));have ba:Hid (s.drain (w1,w2)={s with lanes:=qw s.lanes w2 (vU l (j7 w1)),book:=L.foldl (λb id=>jn b w2 id 8) s.book}):=κ (by unfold RmS.drain RmS.drainL;simp only[if_neg am.o.1,if_neg am.o.2,bV.o,ao]);rw[ao] at bc aL;unfold maxLen at aL;simp only[ao];clear ao
    iterate 1 (refine qD rfl rfl (qi bM.o) ?_;intro K d;go_big_quiet_op;go_big_quiet_on)
    refine qv ?_;clear cM cQ cP bk;have bp:Hid (k.b<aS.heap.size):=κ (Nat.lt_of_lt_of_le H.o.at.nb.2.2 ay.o.size);obtain⟨dq,ck⟩:=ν (vU l (j7 w1));rw[ck] at bP ba;clear ck;go_wp2
    go_loopw [28] (λab wr=> ∃j:Nat,j<=L.length/\ab= ι j/\qF w0 wr k {s with lanes:=qw s.lanes w2 dq,book:=(L.take j).foldl (λb id=>jn b w2 id 8) s.book} ([w.heap.size]++F)/\qt ([w.heap.size]++F) W1 wr/\qg (λb=>b=k.b) aR wr) (λab _=>L.length-(intOf ab).toNat)
    case atStart=>exact⟨0,τ,rfl,bP.o,bx.o,qg.refl _ _⟩
    case round=>
     obtain⟨j,dv,rfl,N,J,ac⟩:=hrel;have an:=κ N;have ax:=κ J;have bT:=κ ac;clear N J ac;by_cases hlt:j<L.length
     ·have bF:(j:Int)<(L.length:Int):=by omega
      obtain⟨g,rfl,dI⟩:=bc.o wr (λg dJ dt=>bT.o.block g dt (by have:=bp.o;omega)) j hlt;have br:Hid (L.take (j+1)=L.take j++[L[j]]):=κ (by rw[List.take_add_one,List.getElem?_eq_getElem hlt];rfl);generalize L[j]=id at *
      go_upto_region 5 with fail
      obtain⟨nb,cC,_⟩:=an.o.nb;obtain⟨aj,ak,aU⟩:=an.o.blk;have cL:=κ (ax.o.blk η aC.o);have bh:=cC w.heap.size η;have aw:=λ(x:qu (λb=>b=k.b) wr)=>β0 (x.h.blk aU nb)
      have cR:=λ(x:qu (λb=>b=k.b) wr)=>β1 (x.h.blk cL.o bh)
      refine QN (λb=>b=k.b) wr 8 8 [7] ?_
      refine Qs7 ?_
      (refine Ql ?_;intro K d)
      go_call Xv (an.o.on (qa.drewN wr 1)) w2 id 8 as e cH ⟨rfl,aJ,aQ,aH⟩;have bm:=κ aJ;have bz:=κ aQ;have aT:Hid (qg (λb=>b=k.b) wr cH):=κ (((qg.refl _ _).drewN 1).trans aH);clear aJ aQ aH;refine⟨_,rfl,qi aT.o,d _ _ ?_⟩;clear d K aw cR nb cC bh;refine qv ?_;go_wp2;go_roundw
      case rel=>exact⟨j+1,τ,by go_num,by rw[br.o,List.foldl_append];exact bm.o,ax.o.trans ((an.o.stay (qa.drewN wr 1)).trans bz.o),bT.o.trans aT.o⟩
      case measure=>simp[intOf];omega
     ·obtain rfl:j=L.length:=by omega
      have bF: ¬(L.length:Int)<(L.length:Int):=by omega
      go_wp2;go_meet;exact⟨by rw[ba.o];have:=an.o;rw[List.take_length] at this;exact this,ax.o⟩
 case rest=>
  obtain⟨aK,J⟩:=hcut;have aD:=κ aK;have df:=κ J;have bj:=κ (J.blk η aC.o);clear aK J dp;obtain⟨av,bg⟩:=ν (s.drain (w1,w2));rw[bg] at aD;have dr:=β0 bj.o;have bf:=β1 bj.o;obtain⟨aq,bD⟩:=ν ((vW (w1,w2)).1.1);obtain⟨ar,bE⟩:=ν ((vW (w1,w2)).1.2);obtain⟨ok,bG⟩:=ν ((vW (w1,w2)).2);have bR:=κ (Et w1 w2 ⟨cA,cB⟩ wc);rw[bD,bE,bG] at bR;have bb:Hid (s.goesR (w1,w2)=(!ok||(qh s.ret (aq,ar)).getD false)):=κ (by unfold RmS.goesR;rw[bG,<-bD,<-bE]);have bn:Hid (av.ret=s.ret):=κ (by rw[<-bg];exact Do s _);have bo:=κ bg;clear bg bD bE bG;have bq:=κ (ca.o.trans (df.o.sub (F':=F) (λb G=>List.mem_append_right _ G)))
  go_upto_region 24 with (go_at_call 127;(go_call bR.o as e w5 ⟨rfl,cz⟩;have dh:=κ cz;clear cz))
  obtain⟨W6,be⟩:=ν (w5.alloc (.cells #[ι aq,ι ar] 37));have ah:Hid (qa wc W6):=κ (by rw[<-be];exact dh.o.al _);have cK:Hid (W6.heap[w5.heap.size]? =some (.cells #[ι aq,ι ar] 37 (0,0))):=κ (by rw[<-be];exact qk w5 _)
  (try rw[be])
  clear be;obtain⟨T,vp,bL,I⟩:=aD.o;have H:=κ I;clear I;have aV:=λ(x:qp W6)=>β8 (qc (ah.o.trans x.h) H.o.blk)
  have bv:=λ(x:qp W6)=>qc (ah.o.trans x.h) bj.o
  have aY:=λx=>β0 (bv x);have aZ:=λx=>β1 (bv x);clear bv
  have bw:=λ(x:qp W6)=>qc x.h cK.o
  have aw:=λx=>β0 (bw x);have aX:=λx=>β1 (bw x);clear bw
  have aW: ∀x:qp W6,(Instr.lookup 87 (.map (some k.M1)) (θ #[ι aq,ι ar]) false).run prog x.w'= .ok (μ ((qh av.ret (aq,ar)).getD false)) x.w':=λx=>VP (H.o.retm.more (ah.o.trans x.h)) (aq,ar)
  rw[bn.o] at aW;obtain⟨g,cm⟩:=ν ((qh s.ret (aq,ar)).getD false);rw[cm] at aW bb;clear cm;cases ok with
  | false=>
   have am:Hid (s.endW (w1,w2)={av with ret:=qw av.ret (w1,w2) true}):=κ (by unfold RmS.endW;rw[bb.o,bo.o,bn.o];rfl);refine qz _ (qa.refl _) ξ ξ ?_
   repeat (go_big_quiet_step (fail))
   refine wpQuiet_nil ?_;intro _ aP;obtain⟨Y,rfl⟩:=aP
   go_upto_region 25 with fail
   obtain⟨W7,au⟩:=ν (Y.w');have ad:Hid (qa W6 W7):=κ (by rw[<-au];exact Y.h)
   (try rw[au])
   clear au aW aw aX;have cS: ∀x:qp W7,x.w'.cell? ⟨k.R,8,none⟩=some (.map (some k.M1)):=λx=>aV ⟨_,ad.o.trans x.h⟩
   have cT: ∀x:qp W7,x.w'.cell? ⟨w.heap.size,0,none⟩=some (ι w1):=λx=>aY ⟨_,ad.o.trans x.h⟩
   have cU: ∀x:qp W7,x.w'.cell? ⟨w.heap.size,1,none⟩=some (ι w2):=λx=>aZ ⟨_,ad.o.trans x.h⟩
   clear aV aY aZ;refine Qn W7 5 6 [5] ?_
   refine Qq5 ?_
   have aG:=κ (H.o.on (ah.o.trans (ad.o.trans (qa.drewN W7 1))));obtain⟨w9,N,aM,ac,_⟩:=aG.o.retm.update Ue underlying87 (w1,w2) true;unfold kO at N;have af:=κ (aG.o.retMap aM ac);have ae:=κ (H.o.at.stay (ah.o.trans (ad.o.trans (qa.drewN W7 1))));clear aM ac
   (refine Qe ?_;intro K d)
   refine d _ _ ?_;clear d K;refine qv ?_;go_wp2
   (refine bodyPost_end (v:= .tuple #[]) ?re1 rfl ?_;(case re1=>simp[results,results78,go_sem]))
   exact⟨rfl,by rw[am.o];obtain⟨ae,aj,ak,Y⟩:=af.o.1;exact⟨ae,aj,ak,Y.sub (λb G=>List.mem_append_right _ G)⟩,bq.o.trans ((ae.o.trans af.o.2).sub (λb G=>List.mem_append_right _ G))⟩
  | true=>
   cases g with
   | true=>
    have am:Hid (s.endW (w1,w2)={av with ret:=qw av.ret (w1,w2) true}):=κ (by unfold RmS.endW;rw[bb.o,bo.o,bn.o];rfl);refine qz _ (qa.refl _) ξ ξ ?_
    repeat (go_big_quiet_step (fail))
    refine wpQuiet_nil ?_;intro _ aP;obtain⟨Y,rfl⟩:=aP
    go_upto_region 25 with fail
    obtain⟨W7,au⟩:=ν (Y.w');have ad:Hid (qa W6 W7):=κ (by rw[<-au];exact Y.h)
    (try rw[au])
    clear au aW aw aX;have cS: ∀x:qp W7,x.w'.cell? ⟨k.R,8,none⟩=some (.map (some k.M1)):=λx=>aV ⟨_,ad.o.trans x.h⟩
    have cT: ∀x:qp W7,x.w'.cell? ⟨w.heap.size,0,none⟩=some (ι w1):=λx=>aY ⟨_,ad.o.trans x.h⟩
    have cU: ∀x:qp W7,x.w'.cell? ⟨w.heap.size,1,none⟩=some (ι w2):=λx=>aZ ⟨_,ad.o.trans x.h⟩
    clear aV aY aZ;refine Qn W7 5 6 [5] ?_
    refine Qq5 ?_
    have aG:=κ (H.o.on (ah.o.trans (ad.o.trans (qa.drewN W7 1))));obtain⟨w9,N,aM,ac,_⟩:=aG.o.retm.update Ue underlying87 (w1,w2) true;unfold kO at N;have af:=κ (aG.o.retMap aM ac);have ae:=κ (H.o.at.stay (ah.o.trans (ad.o.trans (qa.drewN W7 1))));clear aM ac
    (refine Qe ?_;intro K d)
    refine d _ _ ?_;clear d K;refine qv ?_;go_wp2
    (refine bodyPost_end (v:= .tuple #[]) ?re2 rfl ?_;(case re2=>simp[results,results78,go_sem]))
    exact⟨rfl,by rw[am.o];obtain⟨ae,aj,ak,Y⟩:=af.o.1;exact⟨ae,aj,ak,Y.sub (λb G=>List.mem_append_right _ G)⟩,bq.o.trans ((ae.o.trans af.o.2).sub (λb G=>List.mem_append_right _ G))⟩
   | false=>
    have am:Hid (s.endW (w1,w2)=av):=κ (by unfold RmS.endW;rw[bb.o,bo.o];rfl);refine qz _ (qa.refl _) ξ ξ ?_
    repeat (go_big_quiet_step (fail))
    refine wpQuiet_nil ?_;intro _ aP;obtain⟨Y,rfl⟩:=aP;go_wp2
    (refine bodyPost_end (v:= .tuple #[]) ?re3 rfl ?_;(case re3=>simp[results,results78,go_sem]))
    have dn:=H.o.at.stay (ah.o.trans Y.h);exact⟨rfl,by rw[am.o];exact⟨_,_,_,(H.o.on (ah.o.trans Y.h)).sub (λb G=>List.mem_append_right _ G)⟩,bq.o.trans (dn.sub (λb G=>List.mem_append_right _ G))⟩
end
def NoU (w:World) (b:Nat):Prop:= ∀o k n,k≠IntKind.i64->w.cell? ⟨b,o,none⟩≠some (.int k n)
section
variable {S:Nat->Prop} {w w':World}
theorem SlI.noU {k:IntKind} {v:Value} {l:List Int} (h:SlI k w v l) (O:k≠ .i64) (a:qg S w w') (U: ∀b,S b->NoU w b):SlI k w' v l:=by
 obtain⟨Y,cap,H,I,J,N⟩:=h;refine⟨Y,cap,H,I,λi hi=> ?_,N⟩;obtain⟨b,aa,e,d,G⟩:=J i hi;exact⟨b,aa,e,Nat.lt_of_lt_of_le d a.size,by rw[a.cells b _ d (λs=>U b s _ _ _ O G)];exact G⟩
theorem SlP.noU {α:Type} {n:Nat} {R:qJ α} {v:Value} {l:List α} (h:SlP n R w v l) (a:qg S w w') (af: ∀b,S b->NoU w b)
  (ae: ∀cs x,R w cs x->R w' cs x/\ ∃j k m,j<n/\k≠IntKind.i64/\cs[j]? =some (.int k m)):SlP n R w' v l:=by
 obtain⟨ah,cap,H,I,J,N⟩:=h;refine⟨ah,cap,H,I,λi hi=> ?_,N⟩;obtain⟨b,ai,cs,e,d,ac,G,O⟩:=J i hi;obtain⟨U,j,k,m,Y,ab,ad⟩:=ae cs _ O;refine⟨b,ai,cs,e,Nat.lt_of_lt_of_le d a.size,ac,λag aa=> ?_,U⟩;rw[a.cells b _ d (λs=>af b s _ _ _ ab ((G j Y).trans ad))];exact G ag aa
theorem Qu.noU {cs:List Value} {x:Itm} (h:Qu w cs x) (a:qg S w w') (d: ∀b,S b->NoU w b):Qu w' cs x/\ ∃j k m,j<17/\k≠IntKind.i64/\cs[j]? =some (.int k m):=by
 obtain⟨vb,H,I,vo,rfl,s,G⟩:=h;refine⟨⟨vb,H,I,vo,rfl,⟨s.bl.noU a d ?_,⟨s.ms.asks.noU a d ?_,s.ms.lost.noU ζ a d⟩,s.bo.noU ζ a d⟩,G⟩,10,_,_,ζ, ?_,rfl⟩
 ·rintro cs x ⟨rfl,h⟩;exact⟨⟨rfl,h⟩,0,_,_,ζ,ζ,rfl⟩
 ·rintro cs x ⟨rfl,h⟩;exact⟨⟨rfl,h⟩,0,_,_,ζ,ζ,rfl⟩
 ·decide
theorem Db {v:Value} {l:List Itm} (h:SlP 17 Qu w v l) (a:qg S w w') (d: ∀b,S b->NoU w b):SlP 17 Qu w' v l:=h.noU a d λ_ _ G=>G.noU a d
end
theorem Ko {c:qR} (G:c.1<=31):(qC c).1.bl.length<=100000:=by
 have d: ∀(r:Rep) (s:RdS),r.bl.length<=100000->(vg r s).1.bl.length<=100000:=by
  intro r s h;unfold vg;split
  ·exact h
  ·exact Nat.zero_le _
 unfold qC;split
 ·decide
 ·split
  ·exact d _ _ (by simp only;rw[uD];omega)
  ·split
   ·exact d _ _ (by simp only;rw[uD];omega)
   ·decide
theorem Pn {b:List Int} (U:Byt b) (h:(zi b).2=0):(zi b).1.length<=200/\ ∀x∈(zi b).1,EH x:=by
 have d:(jG b).2=0:=by
  cases G:decide ((jG b).2=0) with
  | true=>exact of_decide_eq_true G
  | false=>
   have:=of_decide_eq_false G;unfold zi at h;rw[if_neg this] at h;exact absurd h this
 obtain⟨J,_,_,N⟩:=Q7 U (k:=(jG b).1) (by rw[<-d]);obtain⟨_,O,_⟩:=CF J;have Y:(zi b).1=(jG b).1.map λc=>(qs c).1:=by
  unfold zi at h ⊢;rw[if_pos d] at h ⊢;split at h
  ·rename_i H;rw[if_pos H]
  ·rename_i H;exact absurd h H
 generalize (jG b).1=l at *;rw[Y];refine⟨?_,λx aa=> ?_⟩
 ·rw[List.length_map];by_cases d:0<l.length
  ·exact(Xi N 0 d).2
  ·omega
 ·obtain⟨c,G,rfl⟩:=List.mem_map.1 aa;obtain⟨ab,_,ac⟩:=(zN c).1 (O c G);have I:=Kp (c:=c) τ;unfold qs;split
  ·exact⟨Ko ab,Nat.zero_le _,Nat.zero_le _,Nat.zero_le _⟩
  split
  ·exact⟨Nat.zero_le _,Nat.zero_le _,Nat.zero_le _,by show c.2.2.1.length<=1000000;omega⟩
  ·exact⟨Nat.zero_le _,I.1,I.2,Nat.zero_le _⟩
section
variable {T:Nat->Tg} {w0 w w':World} {k:RmK} {vp vr:Value} {s:RmS} {F:List Nat}
theorem RmX.ints (h:RmX T w0 w k vp vr s F) (m:qa w w') {N:IntKind} {v:Value} {L:List Int} (ac:SlI N w' v L) (aa: ∀q,v.ownBlock=some q->w.heap.size<=q):
  ∃G cap Fn,v= δ G L.length cap/\(L.length:Int)<=9223372036854775807/\RmX T w0 w' k vp vr s (Fn++F)/\ ∀w'':World,(∀b∈Fn,w''.heap[b]? =w'.heap[b]?)-> ∀i (hi:i<L.length),∃b H,G=some ⟨b,H,none⟩/\w''.cell? ⟨b,H+i,none⟩=some (.int N L[i]):=by
 obtain⟨G,cap,rfl,Y,ab,_⟩:=ac;refine⟨G,cap,match G with | some a=>if w.heap.size<=a.block/\a.block<w'.heap.size then [a.block] else [] | none=>[],rfl,Y,h.adds m (λb d=> ?_),λw'' J i hi=> ?_⟩
 ·cases G with
  | none=>simp at d
  | some a=>
   simp only at d;split at d
   ·rename_i I;simp at d;subst d;exact I
   ·simp at d
 ·obtain⟨b,H,rfl,I,O⟩:=ab i hi;have U:=aa b rfl;simp only[U,I,and_self,if_true] at J;have e:=J b η;refine⟨b,H,rfl, ?_⟩;rw[World.cell?_of_block e,O];simp[hi]
end
theorem Ui (n:Int) (w:World):Calls prog 89 #[ι n] w λe w'=>e= .returned (μ (jc n))/\w'=w:=by
 have G:Hid (jc n=decide (0<=n/\n<3)):=κ rfl;by_cases h1:0<=n
 ·by_cases h2:n<3
  ·have d:jc n=true:=by rw[G.o];simp[h1,h2]
   rw[d];clear d G
   go_enter func89,ntmps89
   go_wp2;go_ret;exact⟨rfl,rfl⟩
  ·have d:jc n=false:=by rw[G.o];simp[h2]
   rw[d];clear d G
   go_enter func89,ntmps89
   go_wp2;go_ret;exact⟨rfl,rfl⟩
 ·have d:jc n=false:=by rw[G.o];simp[h1]
  rw[d];clear d G
  go_enter func89,ntmps89
  go_wp2;go_ret;exact⟨rfl,rfl⟩
def ZD (s:RmS):Prop:= ∀x sb,qh s.tab.u x=some sb->sb.2.1=true-> ∀n,jc n=true->(qh s.strs (sb.2.2,n)).isSome=true
structure zS (s s':RmS):Prop where
 tab:s'.tab=s.tab
 lanes:s'.lanes=s.lanes
 strs: ∀x,(qh s'.strs x).isSome=(qh s.strs x).isSome
theorem zS.refl (s:RmS):zS s s:=⟨rfl,rfl,λ_=>rfl⟩
theorem zS.trans {a b c:RmS} (h:zS a b) (k:zS b c):zS a c:=⟨k.tab.trans h.tab,k.lanes.trans h.lanes,λx=>(k.strs x).trans (h.strs x)⟩
theorem Uv (s:RmS) (x:Int):zS s (s.tell1 x):=by
 unfold RmS.tell1;cases qh s.tab.u x with
 | none=>exact zS.refl s
 | some sb=>
  simp only;split
  ·cases qh s.lanes x with
   | none=>exact zS.refl s
   | some l=>
    simp only;split
    ·cases ht:qh s.strs (sb.2.2,l.cur) with
     | none=>exact zS.refl s
     | some t=>
      refine⟨rfl,rfl,λo=> ?_⟩;simp only[qy];split
      ·rename_i e;rw[e,ht];rfl
      ·rfl
    ·exact zS.refl s
  ·exact zS.refl s
theorem Q0 (L:List Int): ∀s:RmS,zS s (L.foldl RmS.tell1 s):=by
 induction L with
 | nil=>exact zS.refl
 | cons x L ih=>exact λs=>(Uv s x).trans (ih _)
theorem Uu (L:List Int): ∀s:RmS,zS s (L.foldl RmS.tellS s):=by
 induction L with
 | nil=>exact zS.refl
 | cons x L ih=>exact λs=>(Q0 _ s).trans (ih _)
theorem zS.subs {s s':RmS} (h:zS s s') (k:xZ s):xZ s':=⟨by rw[h.tab];exact k.keys,by rw[h.tab,h.lanes];exact k.lane,by rw[h.tab];exact k.few⟩
theorem zS.pub {s s':RmS} (h:zS s s') (k:ZD s):ZD s':=λx I d G n H=>by
 rw[h.tab] at d;rw[h.strs];exact k x I d G n H
section
variable {w0 w w':World} {k:RmK} {s:RmS} {F F':List Nat}
theorem qF.noU (h:qF w0 w k s F):NoU w k.R:=by
 obtain⟨T,vp,N,x⟩:=h;obtain⟨xs,d,_⟩:=(x.all .pks).1.row;obtain⟨O,G,_⟩:=(x.all .reqs).1.row;obtain⟨J,c1,rfl⟩:=xG d;obtain⟨o2,c2,rfl⟩:=xG G;intro o I n H;rw[cell_of_row w k.R o _ _ _ x.blk];unfold zH
 match o with
 | 0 | 1 | 2 | 3 | 4 | 5 | 6 | 7 | 8 | 9 | 10 | 11 | 12 | 13 | 14 | 15 | 16 | 17 | 18 | 19 | 20=>simp;try (intro e;exact absurd e.symm H)
 | n+21=>simp
theorem No (h:qF w0 w k s F) (bz:xZ s) (ao:ZD s) (b:List Int) (v:Value) (bK:SlI .u8 w v b) (d:Byt b) (cq:b.length<=1000000) (cn:0<=s.cnt.malf/\s.cnt.malf<=1000000000/\0<=s.cnt.told/\s.cnt.told<=1000000000):
  Calls prog 130 #[γ k.R,v] w λe w'=>e= .returned (.tuple #[])/\qF w0 w' k (s.tell b) F/\qt F w w':=by
 have av:=κ h;have ax:=κ (DH b v w bK d cq);have am:=κ (Pn (b:=b) d);have aL:=κ bz;have bY:=κ ao;obtain⟨cS,cT,t0,t1⟩:=cn;obtain⟨bo,aV⟩:=ν ((zi b).2);have bf:=κ aV;rw[aV] at ax am;obtain⟨cY,cJ,rfl,_⟩:=bK;clear h bz ao aV d;by_cases he:bo=0
 ·subst he;have aj:Hid (s.tell b=(xH (zi b).1).foldl RmS.tellS {s with cnt:={s.cnt with told:=s.cnt.told+1}}):=κ (by unfold RmS.tell;rw[if_pos bf.o]);obtain⟨bE,bt⟩:=ν ((zi b).1);rw[bt] at ax am aj;clear bt;obtain⟨bp,bq⟩:=am.o rfl;have bU:=κ bp;have bV:=κ bq;clear bp bq am
  go_enter func130,ntmps130
  go_upto_region 3 with (go_at_call 188;(go_call ax.o as e w1 ⟨bM,rfl,s1,U⟩;have bl:=κ s1;have ci:=κ U;have ab:=κ (av.o.on U);have aC:=κ (av.o.stay U);clear s1 U))
  obtain⟨vp,ct,aa⟩:=ab.o.blk;have cH:=β19 aa;have cL:=qd aa 19;clear aa;have ac:=κ (ab.o.cell 19 (ι (s.cnt.told+1)) (s':={s with cnt:={s.cnt with told:=s.cnt.told+1}}) (λ_ _=>rfl) ⟨rfl,rfl,rfl,rfl,rfl,rfl,rfl,rfl,rfl⟩);have aS:=κ (Db bl.o (qg.set (S:=λb=>b=k.R) (qg.refl _ _) (p:=⟨k.R,19,none⟩) rfl (ι (s.cnt.told+1))) (λb d=>by rw[d];exact ab.o.noU));have bn:=κ (aC.o.trans ac.o.2);obtain⟨W2,br⟩:=ν (w1.setCell ⟨k.R,19,none⟩ (ι (s.cnt.told+1)));rw[br] at ac aS bn;obtain⟨st,aH⟩: ∃st:RmS,{s with cnt:={s.cnt with told:=s.cnt.told+1}}=st:=⟨_,rfl⟩;have aQ:=κ ac.o.1;rw[aH] at aQ aj;have cd:Hid (xZ st):=κ (by rw[<-aH];exact⟨aL.o.keys,aL.o.lane,aL.o.few⟩);have bZ:Hid (ZD st):=κ (by rw[<-aH];exact bY.o);have bT:=κ (WA bE bM W2 aS.o (by have:=bU.o;omega) bV.o);generalize xH bE=A at *;clear aH ac aS ab aC bl ci
  go_wp2_with (first | ((try rw[br]);(go_at_call 189;(go_call bT.o as e cu ⟨da,rfl,⟨s3,bH⟩,aY⟩;obtain⟨cz,db,dg,bO⟩:=aQ.o;obtain⟨cU,cap,au,rfl,cQ,aq,bw⟩:=bO.ints aY s3 bH;have cb:=κ bw;have bR:=κ aq.at;have cj:=κ (bn.o.trans (aQ.o.stay aY));clear s3 bH aY bO aq bw))))
  go_loopw [41] (λag wr=> ∃j:Nat,j<=A.length/\ag= ι j/\qF w0 wr k ((A.take j).foldl RmS.tellS st) (au++F)/\qt (au++F) cu wr) (λag _=>A.length-(intOf ag).toNat)
  case atStart=>exact⟨0,τ,rfl,bR.o,qt.refl _ _⟩
  case round=>
   obtain⟨j,cP,rfl,ap,J⟩:=hrel;have aw:=κ ap;have aP:=κ J;clear ap J;by_cases hlt:j<A.length
   ·have cp:(j:Int)<(A.length:Int):=by omega
    obtain⟨cE,cW,rfl,cN⟩:=cb.o wr (λb d=>aP.o.2 b (by simp[d])) j hlt;have cg:Hid (A.take (j+1)=A.take j++[A[j]]):=κ (by rw[List.take_add_one,List.getElem?_eq_getElem hlt];rfl);generalize A[j]=src at *;have bm:=κ (Uu (A.take j) st);generalize bB:(A.take j).foldl RmS.tellS st=sj at *;have ce:=κ bB;clear bB;obtain⟨cC,de,dj,bc⟩:=aw.o;have aN:=κ (bm.o.subs cd.o);have bi:=κ (Hl bc.tab src aN.o.keys aN.o.few);obtain⟨L,aD⟩:=ν (prR (ya src) sj.tab.u);have bX:Hid (∀x∈L,∃bb l,qh sj.tab.u x=some bb/\qh sj.lanes x=some l):=κ (λx bC=>by rw[<-aD] at bC;exact Vv aN.o bC);have bW:Hid (sj.tellS src=L.foldl RmS.tell1 sj):=κ (by unfold RmS.tellS;rw[aD]);rw[aD] at bi;have cl:=β11 bc.blk;clear aD bc
    go_wp2_with (go_at_call 190;(go_call bi.o as e w4 ⟨⟨vb,rfl,bJ,bI⟩,aZ⟩;obtain⟨cA,dc,dh,aq⟩:=aw.o;obtain⟨cV,cI,bd,rfl,cR,bP,bx⟩:=aq.ints aZ bJ bI;have cc:=κ bx;have bS:=κ bP.at;have ck:=κ (aP.o.trans (aw.o.stay aZ));clear bJ bI aZ aq bP bx))
    go_loopw [52] (λag wr=> ∃i:Nat,i<=L.length/\ag= ι i/\qF w0 wr k ((L.take i).foldl RmS.tell1 sj) (bd++(au++F))/\qt (bd++(au++F)) w4 wr) (λag _=>L.length-(intOf ag).toNat)
    case atStart=>exact⟨0,τ,rfl,bS.o,qt.refl _ _⟩
    case round=>
     obtain⟨i,hi,rfl,ap,J⟩:=hrel;have N:=κ ap;have ah:=κ J;clear ap J;by_cases hlt2:i<L.length
     ·have co:(i:Int)<(L.length:Int):=by omega
      obtain⟨cF,cX,rfl,cO⟩:=cc.o wr (λb d=>ah.o.2 b (by simp[d])) i hlt2;have aA:Hid (L.take (i+1)=L.take i++[L[i]]):=κ (by rw[List.take_add_one,List.getElem?_eq_getElem hlt2];rfl);obtain⟨bb,l,aG,aF⟩:=bX.o _ (List.getElem_mem hlt2);generalize L[i]=x at *;have aT:=κ (Q0 (L.take i) sj);generalize bA:(L.take i).foldl RmS.tell1 sj=si at *;have ay:=κ bA;clear bA;rw[<-aT.o.tab] at aG;rw[<-aT.o.lanes] at aF;obtain⟨cB,dd,di,ar⟩:=N.o;have O:=κ ar;have ca:=κ (aT.o.pub (bm.o.pub bZ.o));obtain⟨cr,bv,bs⟩:=ar.laneAt aF;have ae:=κ (Mf ar.tab x);have bg:=κ bs;have bh:=κ aF;have aM:=κ aG;rw[aG] at ae;simp only[Option.getD_some] at ae;have cl:=β11 ar.blk;obtain⟨s1,s2,s3⟩:=bb;simp only at ae
      have aK:Hid (∀w',qa wr w'->(Instr.lookup 90 (.map (some k.ML)) (ι x) false).run prog w'= .ok (γ cr) w'):=κ (λw' m=>by
       have:=xo (O.o.lnm.more m) x false;rw[bv] at this
       exact this)
      clear ar aF bs aG bv;cases s2 with
      | false=>
       have ad:Hid (si.tell1 x=si):=κ (by unfold RmS.tell1;rw[aM.o];rfl)
       go_wp2_with (go_at_call 90;(go_call ae.o as e w5 ⟨rfl,G⟩;have H:=κ G;clear G))
       go_roundw
       case rel=>exact⟨i+1,τ,by go_num,by rw[aA.o,List.foldl_append,ay.o];show qF w0 _ k (si.tell1 x) _;rw[ad.o];exact N.o.on H.o,ah.o.trans (N.o.stay H.o)⟩
       case measure=>simp[intOf];omega
      | true=>
       obtain⟨bG,aX⟩:=ν (l.wanted);obtain⟨I,aW⟩:=ν (l.cur);obtain⟨bF,bu⟩:=ν (l.tgt);have az:=κ (λw m=>Xj (bg.o.on (w':=w) m));rw[aX,aW,bu] at az;have ad:Hid (si.tell1 x=if bG&&jc I then (match qh si.strs (s3,I) with | none=>si | some t=>{si with strs:=qw si.strs (s3,I) {t with askedOf:=true}}) else si):=κ (by unfold RmS.tell1;rw[aM.o];simp only[bh.o,if_true];rw[aX,aW];rfl);clear aX aW bu bg bh;cases bG with
       | false=>
        have ak:Hid (si.tell1 x=si):=κ (by rw[ad.o];rfl)
        go_wp2_with (first | (go_at_call 90;(go_call ae.o as e w5 ⟨rfl,G⟩;have H:=κ G;have aU:=β12 (qc G O.o.blk);have ba:=aK.o w5 G;clear G)) | (go_at_call 67;(go_call az.o _ H.o as e w6 ⟨rfl,Y⟩;have af:=κ Y;clear Y)) | (go_at_call 89;(go_call aO.o _ as e bN ⟨rfl,rfl⟩)))
        go_roundw
        case rel=>exact⟨i+1,τ,by go_num,by rw[aA.o,List.foldl_append,ay.o];show qF w0 _ k (si.tell1 x) _;rw[ak.o];exact N.o.on ((H.o.trans af.o).al _),ah.o.trans (N.o.stay ((H.o.trans af.o).al _))⟩
        case measure=>simp[intOf];omega
       | true=>
        obtain⟨bL,aI⟩:=ν (jc I);have aO:Hid (∀w,Calls prog 89 #[ι I] w λe w'=>e= .returned (μ bL)/\w'=w):=κ (λw=>by rw[<-aI];exact Ui I w);rw[aI] at ad;have ch:=κ aI;clear aI;cases bL with
        | false=>
         have ak:Hid (si.tell1 x=si):=κ (by rw[ad.o];rfl)
         go_wp2_with (first | (go_at_call 90;(go_call ae.o as e w5 ⟨rfl,G⟩;have H:=κ G;have aU:=β12 (qc G O.o.blk);have ba:=aK.o w5 G;clear G)) | (go_at_call 67;(go_call az.o _ H.o as e w6 ⟨rfl,Y⟩;have af:=κ Y;clear Y)) | (go_at_call 89;(go_call aO.o _ as e bN ⟨rfl,rfl⟩)))
         go_roundw
         case rel=>exact⟨i+1,τ,by go_num,by rw[aA.o,List.foldl_append,ay.o];show qF w0 _ k (si.tell1 x) _;rw[ak.o];exact N.o.on ((H.o.trans af.o).al _),ah.o.trans (N.o.stay ((H.o.trans af.o).al _))⟩
         case measure=>simp[intOf];omega
        | true=>
         obtain⟨t,J⟩:=Option.isSome_iff_exists.1 (ca.o x _ aM.o rfl I ch.o);have ak:Hid (si.tell1 x={si with strs:=qw si.strs (s3,I) {t with askedOf:=true}}):=κ (by rw[ad.o];simp only[J];rfl);obtain⟨p,cy,df,ao,bD⟩:=O.o.strAt J;have cf:=κ J;have bj:=κ ao;have bk:=κ bD;clear J ao bD ad
         go_upto_region 14 with (first | (go_at_call 90;(go_call ae.o as e w5 ⟨rfl,G⟩;have H:=κ G;have aU:=β12 (qc G O.o.blk);have ba:=aK.o w5 G;clear G)) | (go_at_call 67;(go_call az.o _ H.o as e w6 ⟨rfl,Y⟩;have af:=κ Y;clear Y)) | (go_at_call 89;(go_call aO.o _ as e bN ⟨rfl,cm⟩;obtain rfl:=cm.symm)))
         obtain⟨ai,aE⟩:=ν (w6.alloc (.cells #[ι I,ι bF] 103));have aR:Hid (qa wr ai):=κ (by rw[<-aE];exact(H.o.trans af.o).al _);have bQ:Hid (ai.heap[w6.heap.size]? =some (.cells #[ι I,ι bF] 103 (0,0))):=κ (by rw[<-aE];exact qk w6 _)
         (try rw[aE])
         clear aE aU ba;have cv:=λ(x:qp ai)=>β13 (qc (aR.o.trans x.h) O.o.blk)
         have cx:=λ(x:qp ai)=>β0 (qc x.h bQ.o)
         have cw: ∀x:qp ai,(Instr.lookup 91 (.map (some k.MS)) (θ #[ι s3,ι I]) false).run prog x.w'= .ok (γ p) x.w':=λx=>by
          have:=yf (O.o.stm.more (aR.o.trans x.h)) (s3,I) false;rw[bj.o] at this;exact this
         refine Qn ai 11 12 [9,11] ?_
         refine Qq9 ?_
         (refine Ql ?_;intro K an)
         refine⟨qj ρ,an _ _ ?_⟩;clear an K
         refine Qq1 ?_
         have aB:=κ (aR.o.dr 1);have aJ:=κ (qc aB.o bk.o.blk);have cZ:=β7 aJ.o;have cM:=qd aJ.o 7;have be:=κ ((O.o.on aB.o).strSet (t':={t with askedOf:=true}) cf.o bj.o (bk.o.on aB.o) (qg.set (S:=λb=>b=p) (qg.refl _ _) (p:=⟨p,7,none⟩) rfl (μ true)) (qA (qo aJ.o 7 _) rfl) rfl)
         (refine Qe ?_;intro K an)
         refine an _ _ ?_;clear an K;refine qv ?_;go_wp2;go_roundw
         case rel=>exact⟨i+1,τ,by go_num,by rw[aA.o,List.foldl_append,ay.o];show qF w0 _ k (si.tell1 x) _;rw[ak.o];exact be.o.1,ah.o.trans ((N.o.stay aB.o).trans be.o.2)⟩
         case measure=>simp[intOf];omega
     ·obtain rfl:i=L.length:=by omega
      have co: ¬(L.length:Int)<(L.length:Int):=by omega
      go_wp2;go_roundw
      case rel=>exact⟨j+1,τ,by go_num,by rw[cg.o,List.foldl_append,ce.o];show qF w0 _ k (sj.tellS src) _;rw[bW.o];have:=N.o;rw[List.take_length] at this;exact this.sub (λb d=>List.mem_append_right _ d),ck.o.trans (ah.o.sub (λb d=>List.mem_append_right _ d))⟩
      case measure=>simp[intOf];omega
   ·obtain rfl:j=A.length:=by omega
    have cp: ¬(A.length:Int)<(A.length:Int):=by omega
    go_wp2
    (refine bodyPost_end (v:= .tuple #[]) ?re1 rfl ?_;(case re1=>simp[results,results130,go_sem]))
    exact⟨rfl,by rw[aj.o];have:=aw.o;rw[List.take_length] at this;exact this.sub (λb d=>List.mem_append_right _ d),cj.o.trans (aP.o.sub (λb d=>List.mem_append_right _ d))⟩
 ·have aj:Hid (s.tell b={s with cnt:={s.cnt with malf:=s.cnt.malf+1}}):=κ (by unfold RmS.tell;rw[bf.o,if_neg he]);have cD:(bo != 0)=true:=by simp[he]
  clear he am
  go_enter func130,ntmps130
  go_upto_region 2 with (go_at_call 188;(go_call ax.o as e w1 ⟨bM,rfl,s1,U⟩;have ab:=κ (av.o.on U);have aC:=κ (av.o.stay U);clear s1 U))
  obtain⟨vp,ct,aa⟩:=ab.o.blk;have cG:=β17 aa;have cK:=qd aa 17;clear aa;have ac:=κ (ab.o.cell 17 (ι (s.cnt.malf+1)) (s':={s with cnt:={s.cnt with malf:=s.cnt.malf+1}}) (λ_ _=>rfl) ⟨rfl,rfl,rfl,rfl,rfl,rfl,rfl,rfl,rfl⟩);go_wp2
  (refine bodyPost_ret (v:= .tuple #[]) ?re2 rfl ?_;(case re2=>simp[results,results130,go_sem]))
  exact⟨rfl,by rw[aj.o];exact ac.o.1,aC.o.trans ac.o.2⟩
end
section
variable {T:Nat->Tg} {w0 w w':World} {k k':RmK} {vp vr vp' vr':Value} {s s':RmS} {F:List Nat} {t1 t2:Tg}
theorem RmX.own2 (h:RmX T w0 w k vp vr s F) (H:t1≠ .no/\t1≠ .data) (J:t2≠ .no/\t2≠ .data) (a:qg (λb=>T b=t1∨T b=t2) w w')
  (aa:k'.Holds (jU T t1 w w') w' vp' vr' s' t1) (ab:k'.Holds (jU T t1 w w') w' vp' vr' s' t2)
  (rest: ∀u,u≠t1->u≠t2->u≠ .no->k.Holds (jU T t1 w w') w' vp vr s u->k'.Holds (jU T t1 w w') w' vp' vr' s' u):RmX (jU T t1 w w') w0 w' k' vp' vr' s' F/\qt F w w':=by
 have I:=h.fresh
 have Y: ∀b,(T b=t1∨T b=t2)->w0.heap.size<=b:=λb d=>h.ge b (by
  rcases d with d | d
  ·rw[d];exact H.1
  ·rw[d];exact J.1)
 refine⟨⟨λu=> ?_,λb d=> ?_,λb d=> ?_,a.to_more h.more Y⟩,a.size,λb d=>a.block b (h.law b d).2.2 (λe=>by
  rcases e with e | e
  ·exact H.1 (by rw[<-e];exact(h.law b d).1)
  ·exact J.1 (by rw[<-e];exact(h.law b d).1))⟩
 ·by_cases e:u=t1
  ·subst e;exact aa
  ·by_cases e2:u=t2
   ·subst e2;exact ab
   ·by_cases en:u= .no
    ·subst en;exact Jj I a.size
    ·refine rest u e e2 en (Holds.frame (h.all u) a (λb d=>⟨λG=> ?_,λG=> ?_⟩) (λb=>jC I en e b) (λb d=> ?_) en)
     ·rcases d with d | d
      ·exact e (G.symm.trans d)
      ·exact e2 (G.symm.trans d)
     ·rcases d with d | d
      ·exact H.2 (d.symm.trans G)
      ·exact J.2 (d.symm.trans G)
     ·exact(jC I η (Ne.symm H.2) b).2 d
 ·unfold jU at d;split at d
  ·have:=h.more.size;omega
  ·exact h.ge b d
 ·obtain⟨N,O,U⟩:=h.law b d;refine⟨?_,O,Nat.lt_of_lt_of_le U a.size⟩;unfold jU;rw[if_neg τ];exact N
theorem VY (H: ∀b,w.heap.size<=b->T b= .no) {t:Tg} (J:t≠ .no) {v v':Value} {W:World} (N: ∀g,v.ownBlock=some g->T g=t) (G:w.heap.size<=W.heap.size) (O:v'.ownBlock=v.ownBlock∨v'.ownBlock=some W.heap.size) (I: ∀g,v'.ownBlock=some g->g<w'.heap.size):
  ∀g,v'.ownBlock=some g->jU T t w w' g=t:=λg d=>(qZ H J g).2 (by
 rcases O with e | e
 ·exact Or.inl (N g (by rw[<-e];exact d))
 ·rw[e] at d;injection d with d
  subst d
  exact Or.inr ⟨rfl,G,I _ e⟩)
theorem RmX.pksPut (h:RmX T w0 w k vp vr s F) {W:World} {v':Value} {y:AcS} (a:qg (λb=>vp.ownBlock=some b∨b=k.R) w w') (Y:w.heap.size<=W.heap.size)
  (row:qV 13 RAc (λb=>(T b≠ .data/\T b≠ .pks)/\b<w.heap.size) w' 0 65 v' (s.pks++[y])) (ac:v'.ownBlock=vp.ownBlock∨v'.ownBlock=some W.heap.size)
  (N:w'.heap[k.R]? =some (.cells (zH k v' vr s) 95 (0,0))):qF w0 w' k {s with pks:=s.pks++[y]} F/\qt F w w':=by
 obtain⟨I,_⟩:=h.all .room;obtain⟨_,J⟩:=h.all .pks;have G:=h.fresh;have ab:qV 13 RAc (λb=>jU T .pks w w' b≠ .data/\jU T .pks w w' b≠ .pks) w' 0 65 v' (s.pks++[y]):=row.other λb d=>by
  by_cases e:b<w.heap.size
  ·refine Or.inl ⟨⟨λH=>d.1 ((jC G η η _).2 H),λH=>d.2 ((qZ G η _).2 (Or.inl H))⟩,e⟩
  ·by_cases e3:b<w'.heap.size
   ·exact absurd ((qZ G η _).2 (Or.inr ⟨rfl,τ,e3⟩)) d.2
   ·exact Or.inr τ
 obtain⟨x,y⟩:=h.own2 (k':=k) (t1:= .pks) (t2:= .room) (vp':=v') (vr':=vr) (s':={s with pks:=s.pks++[y]}) ⟨η,η⟩ ⟨η,η⟩ (a.mono λb d=>by
   rcases d with d | rfl
   ·exact Or.inl (J b d)
   ·exact Or.inr I)
  ⟨ab,VY G η J Y ac (λg aa=>row.lt aa)⟩
  ⟨(jC G η η _).2 I,N⟩
  (λu O U ad z=>by cases u<;>first | exact z | exact absurd rfl O | exact absurd rfl U)
 exact⟨⟨_,_,_,x⟩,y⟩
theorem RmX.reqsPut (h:RmX T w0 w k vp vr s F) {W:World} {v':Value} {y:RqS} (a:qg (λb=>vr.ownBlock=some b∨b=k.R) w w') (Y:w.heap.size<=W.heap.size)
  (row:qV 4 RRq (λb=>(T b≠ .data/\T b≠ .reqs)/\b<w.heap.size) w' 0 296 v' (s.reqs++[y])) (ac:v'.ownBlock=vr.ownBlock∨v'.ownBlock=some W.heap.size)
  (N:w'.heap[k.R]? =some (.cells (zH k vp v' s) 95 (0,0))):qF w0 w' k {s with reqs:=s.reqs++[y]} F/\qt F w w':=by
 obtain⟨I,_⟩:=h.all .room;obtain⟨_,J⟩:=h.all .reqs;have G:=h.fresh;have ab:qV 4 RRq (λb=>jU T .reqs w w' b≠ .data/\jU T .reqs w w' b≠ .reqs) w' 0 296 v' (s.reqs++[y]):=row.other λb d=>by
  by_cases e:b<w.heap.size
  ·refine Or.inl ⟨⟨λH=>d.1 ((jC G η η _).2 H),λH=>d.2 ((qZ G η _).2 (Or.inl H))⟩,e⟩
  ·by_cases e3:b<w'.heap.size
   ·exact absurd ((qZ G η _).2 (Or.inr ⟨rfl,τ,e3⟩)) d.2
   ·exact Or.inr τ
 obtain⟨x,y⟩:=h.own2 (k':=k) (t1:= .reqs) (t2:= .room) (vp':=vp) (vr':=v') (s':={s with reqs:=s.reqs++[y]}) ⟨η,η⟩ ⟨η,η⟩ (a.mono λb d=>by
   rcases d with d | rfl
   ·exact Or.inl (J b d)
   ·exact Or.inr I)
  ⟨ab,VY G η J Y ac (λg aa=>row.lt aa)⟩
  ⟨(jC G η η _).2 I,N⟩
  (λu O U ad z=>by cases u<;>first | exact z | exact absurd rfl O | exact absurd rfl U)
 exact⟨⟨_,_,_,x⟩,y⟩
theorem Ot (h:qF w0 w k s F) (sub id:Int):
  Calls prog 193 #[γ k.B,θ #[ι sub,ι id]] w λe w'=>(∃v,e= .returned (ι v))/\qF w0 w' k {s with book:=(vZ s.book (sub,id)).1} F/\qt F w w'/\qg (λx=>x=k.b) w w':=by
 obtain⟨T,vp,H,x⟩:=h;refine(OB x.bok (sub,id)).mono ?_;rintro e w' ⟨rfl,b,a⟩;obtain⟨d,G⟩:=x.book b a;exact⟨⟨_,rfl⟩,d,G,a⟩
end
end Go.Proofs.YtlmllmonabafjaaGreatDoor
