/- Contracts of the functions that the law reaches, and plain laws; no conditions but those written at each. -/
import Derived.Test.YtdgippmmaponfaaGreatMg20
namespace Go.Proofs.YtdgippmmaponfaaGreat
open Go.Value renaming bool->μ,slice->δ,pointer->π,agg->θ
open Go.IntKind renaming i64->ι,u8->υ,u16->φ,u32->ω,i32->χ,u64->ψ
set_option linter.unusedSimpArgs false
set_option maxHeartbeats 8000000
set_option linter.unusedVariables false
open Go.RowKit
set_option maxRecDepth 100000
section
variable {s s':RmS} {n:Nat}
structure qV (n:Nat) (s:RmS):Prop where
 ow:OwO s
 tb:Gm s
 num:JR n s
theorem qV.up (h:qV n s):qV (n+1) s:=⟨h.ow,h.tb,h.num.up⟩
theorem Loc.ok (h:Loc s s') (k:qV n s) (o:OwO s'):qV n s':=⟨o,h.tb k.tb,h.num k.num⟩
theorem kF {c:CfR} (h:xY c=true):(1<=c.room/\c.room<=8)/\gt c.hold c.wait/\(1<=c.space/\c.space<=c.retry/\c.retry<=1000)/\1<=c.most/\c.most<=10:=by
 unfold xY at h;simp only[Bool.and_eq_true,decide_eq_true_eq] at h;exact h
structure Tk (m:Nat) (now:Int) (s s':RmS):Prop where
 cfg:s'.cfg=s.cfg
 queue:s'.queue=s.queue
 tab:s'.tab=s.tab
 pks:s'.pks=s.pks
 cnt:s'.cnt=s.cnt
 book:s'.book=s.book
 lanes:s'.lanes=s.lanes
 clock:s'.clock=s.clock
 reqs:s'.reqs.length<=s.reqs.length+m
 strs: ∀o,(qh s'.strs o).map (λt=>(t.any,t.great))=(qh s.strs o).map λt=>(t.any,t.great)
 asks: ∀o t',qh s'.strs o=some t'-> ∃t,qh s.strs o=some t/\((0<=t.asks.tries->0<=t'.asks.tries)/\t'.asks.tries<=(if 0<=t.asks.tries then t.asks.tries else 0)+m/\(t'.asks.last=t.asks.last∨t'.asks.last=now))
theorem Ay (s:RmS) (o:Og):Tk 1 s.clock s (s.tick1 o):=by
 have d:Tk 1 s.clock s s:=⟨rfl,rfl,rfl,rfl,rfl,rfl,rfl,rfl,τ,λ_=>rfl,λo t' h=>⟨t',h,λe=>e,by split<;>omega,Or.inl rfl⟩⟩;unfold RmS.tick1;cases ht:qh s.strs o with
 | none=>exact d
 | some t=>
  simp only;have key: ∀o2 t',qh (qx s.strs o {t with asks:=(vU s.cfg.space s.cfg.retry t.asks (s.wants o) s.clock).1}) o2=some t'-> ∃t,qh s.strs o2=some t/\((0<=t.asks.tries->0<=t'.asks.tries)/\t'.asks.tries<=(if 0<=t.asks.tries then t.asks.tries else 0)+1/\(t'.asks.last=t.asks.last∨t'.asks.last=s.clock)):=by
   intro o2 t' h;rw[qF] at h;split at h
   ·rename_i e;injection h with e2
    subst e e2;refine⟨t,ht, ?_⟩;simp only;unfold vU uq;split
    ·refine⟨λe=> ?_, ?_,Or.inl rfl⟩
     ·simp only;split<;>omega
     ·simp only;split<;>split<;>omega
    ·refine⟨λe=> ?_, ?_,Or.inr rfl⟩
     ·simp only;split<;>omega
     ·simp only;split<;>split<;>omega
   ·exact⟨t',h,λe=>e,by split<;>omega,Or.inl rfl⟩
  split
  ·exact⟨rfl,rfl,rfl,rfl,rfl,rfl,rfl,rfl,by unfold RmS.request;simp,xm _ ht rfl,key⟩
  ·exact⟨rfl,rfl,rfl,rfl,rfl,rfl,rfl,rfl,η,xm _ ht rfl,key⟩
theorem ur: ∀(L:List Og) (s:RmS),Tk L.length s.clock s (L.foldl RmS.tick1 s)
 | [],s=>⟨rfl,rfl,rfl,rfl,rfl,rfl,rfl,rfl,η,λ_=>rfl,λo t' h=>⟨t',h,λe=>e,by split<;>omega,Or.inl rfl⟩⟩
 | o::L,s=>by
  rw[List.foldl_cons];have h:=Ay s o;have k:=ur L (s.tick1 o);rw[h.clock] at k;refine⟨k.cfg.trans h.cfg,k.queue.trans h.queue,k.tab.trans h.tab,k.pks.trans h.pks,k.cnt.trans h.cnt,k.book.trans h.book,k.lanes.trans h.lanes,by rw[k.clock,h.clock], ?_,λo=>(k.strs o).trans (h.strs o),λo2 t' N=> ?_⟩
  ·have:=k.reqs;have:=h.reqs;rw[List.length_cons];omega
  ·obtain⟨t1,G,I,c1,d⟩:=k.asks o2 t' N;obtain⟨t0,a0,H,J,M⟩:=h.asks o2 t1 G;refine⟨t0,a0,λe=>I (H e), ?_, ?_⟩
   ·rw[List.length_cons];split at c1<;>split at J<;>split<;>omega
   ·rcases d with d | d
    ·rw[d];exact M
    ·exact Or.inr d
theorem uC (s:RmS):s.origins.length<=9:=Nat.le_trans (List.length_filter_le _ _) ζ
theorem qV.tick (h:qV n s):qV (n+1) s.tick.1:=by
 have I:=h.ow.tick;unfold RmS.tick at I ⊢;split
 ·exact h.up
 ·rename_i am;rw[if_neg am] at I;have k:=ur s.origins {s with clock:=s.clock+1};have ay:=uC s;obtain⟨ae,aq,ar,au,ak,av,aw,ax,al,af,ag,ah,ai,an,aj,ao,ap⟩:=h.num;simp only at k I ⊢;generalize List.foldl RmS.tick1 {s with clock:=s.clock+1} s.origins=s' at *;have J:=k.cfg;have M:=k.queue;have N:=k.tab;have H:=k.pks;have d:=k.cnt;have U:=k.book;have O:=k.lanes;have Y:=k.clock;have ad:=k.reqs;simp only at J M N H d U O Y ad;refine⟨I,h.tb.loc N (λx=>by rw[O]) (λo=>yt (k.strs o)),⟨by rw[J];exact ae,by rw[d];omega,by rw[d];omega,by rw[d];omega,by rw[d,H];exact ak,by rw[d];omega,by rw[H];omega,by rw[Y];omega,λo t a b=> ?_,λo t a=> ?_,by rw[M];exact ag,by rw[J,M];exact ah,by rw[H];exact ai,by rw[N];omega,λx l a=> ?_,by rw[U];omega,τ⟩⟩
  ·obtain⟨t',e,f⟩:=uu (k.strs o) a;simp only[Prod.mk.injEq] at f;have:=al o t' e (by rw[<-f.1];exact b);rw[f.2];omega
  ·obtain⟨t0,a0,ab,ac,G⟩:=k.asks o t a;obtain⟨aa,az,aA,aB⟩:=af o t0 a0;rw[if_pos aa] at ac;refine⟨ab aa,τ, ?_⟩;rcases G with G | G<;>rw[G]<;>omega
  ·rw[O] at a;have:=aj x l a;omega
theorem qV.order (h:qV n s):qV n s.order:=(kr s).ok h (qR.order h.ow λa d=>(h.num.pkok a d).2.2)
theorem qV.choose (h:qV n s) (x:Int):qV n (s.choose x):=(vu s x).ok h (h.ow.choose x)
theorem qV.rewrite (h:qV n s) (x:Int):qV n (s.rewrite x):=(yA s x).ok h (h.ow.rewrite x)
theorem IG (d sq:Int):d-32768<=KH d sq/\KH d sq<=d+32767:=by
 unfold KH ahd;omega
theorem WS {t:zu} {sq:Int} {n:Nat} (d:0<=sq/\sq<=65535) (h:t.any=true->65536<=t.great/\t.great<=65536* (n+2)):32768<=yV t sq/\yV t sq<=65536* ((n+1:Nat)+2)/\(t.any=false->65536<=yV t sq):=by
 unfold yV;cases ha:t.any with
 | true=>
  have:=h ha;have:=IG t.great sq;simp only[if_true];refine⟨τ,τ,λe=>(by cases e)⟩
 | false=>
  simp only[Bool.false_eq_true,if_false];refine⟨τ,τ,λ_=>by omega⟩
theorem Vu (id:Int): ∀(L:List Int) (b:Bk),(Ji b L id).length<=b.length+L.length
 | [],b=>by simp[Ji]
 | x::L,b=>by
  have h:=Vu id L (vT b (x,id)).1;have d:(vT b (x,id)).1.length<=b.length+1:=by
   unfold vT
   repeat' split
   all_goals first | exact Qz _ _ _ | exact Nat.le_succ _
  unfold Ji at h ⊢;rw[List.foldl_cons,List.length_cons];omega
theorem qV.accept (h:qV n s) (o:Og) (p:Pk) (J:uf p/\uj p/\jJ p=true/\0<=p.sq/\p.sq<=65535):qV (n+1) (s.accept o p):=by
 have I:=qR.accept h.ow h.tb.act o p;unfold RmS.accept at I ⊢;cases ht:qh s.strs o with
 | none=>exact h.up
 | some t=>
  rw[ht] at I;simp only at I ⊢;obtain⟨O,af,ag,ah,ai,aj,ak,al,H,M,U,Y,aa,ac,ab,ad,ae⟩:=h.num;refine⟨I,h.tb.loc rfl (λx=>rfl) (λo2=> ?_),⟨O,by simp only;omega,by simp only;omega,by simp only;omega, ?_,by simp only;omega, ?_,by simp only;omega,λo2 t2 a b=> ?_,λo2 t2 a=> ?_,U,Y,λa d=> ?_,by simp only;omega,λx l a=> ?_, ?_,by simp only;omega⟩⟩
  ·simp only;rw[qF];split
   ·rename_i e;rw[e,ht];rfl
   ·rfl
  ·simp only[List.length_append,List.length_cons,List.length_nil];omega
  ·simp only[List.length_append,List.length_cons,List.length_nil];omega
  ·simp only at a;rw[qF] at a;split at a
   ·injection a with e
    subst e;have N:=WS (n:=n) J.2.2.2 (H o t ht);unfold Ye;simp only;split
    ·rename_i G;rcases G with G | G
     ·have:=N.2.2 G;omega
     ·cases d:t.any with
      | true=>have:=H o t ht d;omega
      | false=>have:=N.2.2 d;omega
    ·rename_i G;cases d:t.any with
     | true=>have:=H o t ht d;omega
     | false=>exact absurd (Or.inl d) G
   ·have:=H o2 t2 a b;omega
  ·simp only at a;rw[qF] at a;split at a
   ·injection a with e
    subst e;have:=M o t ht;unfold Ye;simp only;omega
   ·have:=M o2 t2 a;omega
  ·rcases List.mem_append.1 d with d | d
   ·exact aa a d
   ·rw[List.mem_singleton] at d;subst d;exact⟨J.1,J.2.1,J.2.2.1⟩
  ·have:=ab x l a;omega
  ·have am:(prR (j8 o.1) s.tab.u).length<=6:=by unfold prR;exact Nat.le_trans (List.length_filter_le _ _) ζ
   have:=Vu s.pks.length (prR (j8 o.1) s.tab.u) s.book;simp only;split
   ·omega
   ·rw[vQ];omega
theorem qV.read (h:qV n s):qV (n+1) s.read:=by
 have d:=qR.read h.ow h.tb.act;unfold RmS.read at d ⊢;cases hq:s.queue with
 | nil=>exact h.up
 | cons b q=>
  rw[hq] at d;simp only at d ⊢;obtain⟨an,aw,ax,ay,az,aA,aB,aC,aD,ao,J,M,ap,aq,ar,au,av⟩:=h.num;have aE:=J b (by rw[hq];exact List.mem_cons_self);have N:qV n {s with queue:=q}:=⟨h.ow.same rfl rfl rfl rfl,h.tb.loc rfl (λ_=>rfl) (λ_=>rfl),⟨an,aw,ax,ay,az,aA,aB,aC,aD,ao,λc H=>J c (by rw[hq];exact List.mem_cons_of_mem _ H),by rw[hq] at M;simp only[List.length_cons] at M ⊢;omega,ap,aq,ar,au,av⟩⟩;have G: ∀c:CnR,c.acc=s.cnt.acc->c.lost=s.cnt.lost->(0<=c.malf/\c.malf<=n+1)->(0<=c.told/\c.told<=n+1)->(0<=c.strange/\c.strange<=n+1)->qV (n+1) {s with queue:=q,cnt:=c}:=by
   intro c c1 c2 c3 O U;obtain⟨Y,aF,aG,aH,ai,aj,ak,al,am,aa,ab,ac,ad,ae,af,ag,ah⟩:=N.up.num;exact⟨h.ow.same rfl rfl rfl rfl,h.tb.loc rfl (λ_=>rfl) (λ_=>rfl),⟨Y,c3,O,U,by simp only;rw[c1];exact ai,by simp only;rw[c2];exact aj,ak,al,am,aa,ab,ac,ad,ae,af,ag,ah⟩⟩
  split
  ·rename_i H;rw[if_pos H] at d;unfold RmS.tell at d ⊢;split
   ·rename_i I;rw[if_pos I] at d;exact(ko _ _).ok (G {s.cnt with told:=s.cnt.told+1} rfl rfl (by simp only;omega) (by simp only;omega) (by simp only;omega)) d
   ·exact G {s.cnt with malf:=s.cnt.malf+1} rfl rfl (by simp only;omega) (by simp only;omega) (by simp only;omega)
  ·unfold RmS.media;split
   ·rename_i I;cases qh s.tab.o (jl b).1.sc with
    | none=>exact G {s.cnt with strange:=s.cnt.strange+1} rfl rfl (by simp only;omega) (by simp only;omega) (by simp only;omega)
    | some o=>exact N.accept o _ (Xc aE.1 I)
   ·exact G {s.cnt with malf:=s.cnt.malf+1} rfl rfl (by simp only;omega) (by simp only;omega) (by simp only;omega)
end
theorem xw {P:Program} {w:World} {o:Oper} {a:Act} {C:World->Prop} {K:Act->World->Prop} (G:TypeId) (x y:Operand) (J:o.op= .store G x y)
  (g:Nat) (t:TypeId) (c d:Array Value) (I:w.heap[g]? =some (.cells c t (0,0))) (N:a.eval x= γ g) (O:a.eval y= θ d)
  (hi:(P.info? G).map (·.size)=some d.size) (M:c.size=d.size) (H:d.all (·.oneCell')=true)
  (h:C (w.setRow g d)/\K (a.put o.dst undef) (w.setRow g d)):jn P C o a w K:=by
 unfold jn execOp;simp only[J,N,O,Instr.storeAt,Instr.sureAddr,Sem.run_bind,Sem.run_pure,Result.andThen_ok,run_storeVar_row w g t G c d I hi M H];exact h
theorem qa.row {w w':World} (h:qa w w') {g:Nat} (G:w.heap.size<=g) (cs:Array Value):qa w (w'.setRow g cs):=qg.to_more h (qg.setRow w' g cs) (λb d=>by rw[d];exact G)
section
open _root_.Go.Proofs.Tryz
theorem Tk.subs {m:Nat} {d:Int} {s s':RmS} (h:Tk m d s s') (k:zc s):zc s':=⟨by rw[h.tab];exact k.keys,by rw[h.tab,h.lanes];exact k.lane,by rw[h.tab];exact k.few⟩
theorem qV.subs {n:Nat} {s:RmS} (h:qV n s) (d:n<=1000):zc s:=⟨h.tb.keys,h.tb.lane,Nat.le_trans h.num.few τ⟩
section
variable {T:Nat->Tg} {w0 w w':World} {k:RmK} {vp vr:Value} {s:RmS} {F:List Nat}
theorem Hn {n:Nat} (aV:qI w0 w k s F) (bH:qV n s) (cu:n<=1000):
  Calls prog 26 #[γ k.R] w λe w'=>e= .returned (ι s.tick.2)/\qI w0 w' k s.tick.1 F/\qw F w w':=by
 have bl:=κ aV;have an:=κ bH;obtain⟨vp,cA,aA⟩:=aV.blk;have bC:=β7 aA;have co:=β9 aA;have cq:=qd aA 9;obtain⟨cp,ba⟩:=ν (s.closed);rw[ba] at bC;have bm:=κ ba;clear ba aA aV bH;cases cp with
 | true=>
  have aC:Hid (s.tick=(s,7)):=κ (by unfold RmS.tick;rw[if_pos bm.o]);rw[aC.o]
  go_enter func26,ntmps26
  go_wp2;go_ret;exact⟨rfl,bl.o,qw.refl _ _⟩
 | false=>
  obtain⟨cM,cN⟩:=an.o.num.clock;have aP:=κ (bl.o.cell 9 (ι (s.clock+1)) (s':={s with clock:=s.clock+1}) (λ_ _=>rfl) ⟨rfl,rfl,rfl,rfl,rfl,rfl,rfl,rfl,rfl⟩);obtain⟨s1,aL⟩: ∃s1:RmS,{s with clock:=s.clock+1}=s1:=⟨_,rfl⟩;obtain⟨J,bb⟩:=ν (s.origins);have aC:Hid (s.tick=(J.foldl RmS.tick1 s1,0)):=κ (by unfold RmS.tick;rw[if_neg (by rw[bm.o];decide),bb,aL])
  have aq:Hid (zc s1/\xY s1.cfg=true/\(0<=s1.clock/\s1.clock<=1001)/\(∀o t,qh s1.strs o=some t->0<=t.asks.tries/\t.asks.tries<=9000/\0<=t.asks.last/\t.asks.last<=1000)/\s1.reqs.length<=9000/\(∀o v,qh s1.tab.s o=some v->0<=v/\v<=4294967295)/\s1.origins=J):=κ (by
   rw[<-aL];have cr:=an.o.num.asks;have aK:=an.o.num.reqs;have bd:=an.o.subs cu
   exact⟨⟨bd.keys,bd.lane,bd.few⟩,an.o.num.cfg,by simp only;omega,λo t ay=>by have:=cr o t ay;omega,by simp only;omega,an.o.tb.src,bb⟩)
  obtain⟨W1,aX⟩:=ν (w.setCell ⟨k.R,9,none⟩ (ι (s.clock+1)));rw[aL,aX] at aP;obtain⟨T,vp,cA,bN⟩:=aP.o.1;have bu:=κ bN;have bp:=κ bu.o.orgsF;rw[aq.o.2.2.2.2.2.2] at bp;clear bN aL bb
  go_enter func26,ntmps26
  go_wp2_with ((try rw[aX]);(go_at_call 42;(go_call bp.o as e w2 ⟨cY,cap,Fn,rfl,bF,bV,bR,bK⟩;have ce:=κ bK;have ca:=κ bV.at;have cg:=κ bR;have cb:=κ bF;clear bK bV bR bF)))
  clear aX co cq bC;have ci:=κ (aP.o.2.trans (bu.o.at.stay cg.o));have cX:=cb.o
  go_loopw [22] (λbg wr=> ∃j:Nat,j<=J.length/\bg= ι j/\qI w0 wr k ((J.take j).foldl RmS.tick1 s1) (Fn++F)/\qw (Fn++F) w2 wr) (λbg _=>J.length-(intOf bg).toNat)
  case atStart=>exact⟨0,τ,rfl,ca.o,qw.refl _ _⟩
  case round=>
   obtain⟨j,cW,rfl,aK,ay⟩:=hrel;have aR:=κ ay;by_cases hlt:j<J.length
   ·have ct:(j:Int)<(J.length:Int):=by omega
    obtain⟨g,rfl,bB,c1⟩:=ce.o wr (λb Y=>ay.2 b (by simp[Y])) j hlt;have bt:Hid (J.take (j+1)=J.take j++[J[j]]):=κ (by rw[List.take_add_one,List.getElem?_eq_getElem hlt];rfl);have ak:=κ (ur (J.take j) s1);have bI:(J.take j).length<=9:=by rw[List.length_take];omega
    have bo:=κ bI;obtain⟨ts,bM⟩: ∃t,qh s1.strs J[j]=some t:=yB (by rw[aq.o.2.2.2.2.2.2];exact List.getElem_mem hlt);generalize J[j]=o at *;generalize bL:(J.take j).foldl RmS.tick1 s1=sj at *;have bs:=κ bL;clear bL ay bI;obtain⟨t,be⟩: ∃t,qh sj.strs o=some t:=by
     have:=yt (ak.o.strs o);rw[bM] at this;exact Option.isSome_iff_exists.1 this
    have aD:=κ be;have bG:zc sj/\(1<=sj.cfg.space/\sj.cfg.space<=sj.cfg.retry/\sj.cfg.retry<=1000)/\xz sj.clock/\(0<=t.asks.tries/\t.asks.tries<=1000000/\xz t.asks.last):=by
     obtain⟨cv,cw,dd,cx,de,df,dg⟩:=aq.o;obtain⟨t0,a0,cm,cn,ax⟩:=ak.o.asks o t be;obtain⟨bD,cP,cQ,cR⟩:=cx o t0 a0;rw[if_pos bD] at cn;have:=bo.o;refine⟨ak.o.subs cv,by rw[ak.o.cfg];exact(kF cw).2.2.1,by rw[ak.o.clock];exact⟨τ,τ⟩,cm bD,τ, ?_⟩;rcases ax with ax | ax<;>rw[ax]<;>exact⟨τ,τ⟩
    have aj:=κ bG;have cf:Hid (∀o v,qh sj.tab.s o=some v->0<=v/\v<=4294967295):=κ (by rw[ak.o.tab];exact aq.o.2.2.2.2.2.1);have cd:Hid (sj.reqs.length<=1000000):=κ (by have:=ak.o.reqs;have:=aq.o.2.2.2.2.1;have:=bo.o;omega);clear bG bM be;obtain⟨I,o2⟩:=o;simp only at bB c1;obtain⟨ag,aJ⟩:=ν (wr.alloc (.cells #[ι I,ι o2] 50));have bw:Hid (qa wr ag):=κ (by rw[<-aJ];exact qa.alloc _ _);have az:Hid (ag.heap[wr.heap.size]? =some (.cells #[ι I,ι o2] 50 (0,0))):=κ (by rw[<-aJ];exact qj wr _);have bz:=κ (aK.stay bw.o);obtain⟨ck,cz,cB,bO⟩:=aK;have aW:RmX ck w0 ag k cz cB sj ([wr.heap.size]++(Fn++F)):=bO.adds bw.o (λb Y=>by simp at Y;subst Y;exact⟨Nat.le_refl _,lt_of_block az.o⟩);have aE:=κ aW;obtain⟨p,cF,v,bJ,bP⟩:=aW.strAt aD.o;have bv:=κ bP;have bq:=κ bJ;have bX:=λ(x:qt ag)=>β13 (qc x.h aE.o.blk)
    have aT:=λ(x:qt ag)=>qc x.h az.o
    have bj:=λx=>β0 (aT x);have bk:=λx=>β1 (aT x);clear aT
    have bY: ∀x:qt ag,(Instr.lookup 84 (.map (some k.MS)) (θ #[ι I,ι o2]) false).run prog x.w'= .ok (γ p) x.w':=λx=>by
     have:=ya (aE.o.stm.more x.h) (I,o2) false;rw[bq.o] at this;exact this
    clear bO aW bP bJ
    go_upto_region 7 with fail
    (try rw[aJ])
    clear aJ bB c1;refine Qn ag 7 7 [] ?_
    refine Qq7 ?_
    refine qA ?_;clear bX bY bj bk
    go_upto_region 8 with fail
    obtain⟨G,aZ⟩:=ν (ag.drewN 1);have av:Hid (qa ag G):=κ (by rw[<-aZ];exact qa.drewN _ 1);have aF:=κ (aE.o.on av.o);have cj:=κ (aE.o.at.stay av.o)
    (try rw[aZ])
    clear aZ;obtain⟨bU,bf⟩:=ν (sj.wants (I,o2));have aS:=κ (λw' (m:qa G w')=>FA (aF.o.on m) aj.o.1 I o2 aD.o);rw[bf] at aS;obtain⟨cy,bc⟩:=ν (vU sj.cfg.space sj.cfg.retry t.asks bU sj.clock);have ar:=κ (λw'=>Cy sj.cfg.space sj.cfg.retry t.asks bU sj.clock aj.o.2.1.1 aj.o.2.1.2.1 aj.o.2.1.2.2 aj.o.2.2.2.1 aj.o.2.2.2.2.1 aj.o.2.2.2.2.2 aj.o.2.2.1 w');rw[bc] at ar;obtain⟨⟨U,M,N,O⟩,bh⟩:=cy;simp only at ar;have bn:Hid (sj.tick1 (I,o2)=if bh then ({sj with strs:=qx sj.strs (I,o2) {t with asks:=⟨U,M,N,O⟩}}:RmS).request (I,o2) else {sj with strs:=qx sj.strs (I,o2) {t with asks:=⟨U,M,N,O⟩}}):=κ (by unfold RmS.tick1;rw[aD.o];simp only[bf,bc]);clear bf bc
    go_cut [6,7] from 32 to 51 (λv6 v7 ab=> ∃A,v6= γ A/\v7= μ bh/\ab.heap[A]? =some (.cells #[μ U,M,ι N,ι O] 122 (0,0))/\qa G ab)
    case first=>
     have aG:=λ(x:qt G)=>qc x.h aF.o.blk
     have cC:=λx=>β4 (aG x);have cD:=λx=>β5 (aG x);have cE:=λx=>β9 (aG x);clear aG
     have au:=λ(x:qt G)=>qc (av.o.trans x.h) bv.o.blk
     have cG:=λx=>β3 (au x);have cH:=λx=>β4 (au x);have cI:=λx=>β5 (au x);have S6:=λx=>β6 (au x);clear au
     have aU:=λ(x:qt G)=>qc (av.o.trans x.h) az.o
     have bj:=λx=>β0 (aU x);have bk:=λx=>β1 (aU x);clear aU
     refine zB G 23 (.op 0 false (.op 1 false (.op 2 false (.op 3 false (.op 4 false (.op 5 false (.op 6 false (.op 7 false (.op 8 false (.op 9 false (.op 10 false (.op 12 false (.op 13 false (.op 14 false (.op 15 false (.br [11,20] λk=>if k=11 then .br [16,20] λk=>if k=16 then .op 17 false (.op 18 false (.op 19 false (.op 20 true (.op 21 true (.op 22 false (.done)))))) else .op 16 true (.op 17 false (.op 18 false (.op 19 false (.op 21 true (.op 22 false (.done)))))) else .op 11 true (.op 16 true (.op 17 false (.op 18 false (.op 19 false (.op 21 true (.op 22 false (.done))))))))))))))))))))))) ξ ξ ?_
     repeat (first | (refine jg rfl rfl (qk ρ) ?_) | (refine qH rfl rfl (qk ρ) ?_;intro K d;go_big_quiet_op;go_big_quiet_on))
     refine wP ζ ?_ ?_
     ·(refine qO rfl rfl ?_;intro K d;unfold jn;go_simp)
      refine(aS.o _ (qa.drewN G 1)).mono ?_;rintro e w5 ⟨rfl,bS⟩;have aw:Hid (qa G w5):=κ ((qa.drewN G 1).trans bS);clear bS;refine⟨_,rfl,qk aw.o,d _ _ ?_⟩;clear d K;refine wP ζ ?_ ?_
      ·(refine qO rfl rfl ?_;intro K d;unfold jn;go_simp)
       refine(ar.o _).mono ?_;rintro e ab ⟨rfl,ao⟩;have af:=κ (aw.o.trans ao);clear ao;refine⟨_,rfl,qk af.o,d _ _ ?_⟩;clear d K
       repeat (first | (refine jg rfl rfl (qk af.o) ?_) | (refine qH rfl rfl (qk af.o) ?_;intro K d;go_big_quiet_op;go_big_quiet_on))
       (refine qO rfl rfl ?_;intro K d;unfold jn;go_simp)
       refine⟨qk (af.o.al _),d _ _ ?_⟩;clear d K;obtain⟨A,aa⟩:=ν (ab.heap.size);obtain⟨w9,aM⟩:=ν (ab.alloc (.cells #[μ false,false,ι 0,ι 0] 122));have ai:Hid (w9.heap[A]? =some (.cells #[μ false,false,ι 0,ι 0] 122 (0,0))):=κ (by rw[<-aM,<-aa];exact qj ab _);have ac:Hid (qa G w9):=κ (by rw[<-aM];exact af.o.al _);have ap:Hid (G.heap.size<=A):=κ (by rw[<-aa];exact af.o.size)
       (try rw[aM])
       (try rw[aa])
       clear aM aa;refine qO rfl rfl ?_;intro K d;have H:=κ (ac.o.row ap.o #[μ U,M,ι N,ι O]);have ad:=κ (jM ai.o #[μ U,M,ι N,ι O]);refine xw 122 (.tmp 6) (.tmp 50) rfl A 122 _ #[μ U,M,ι N,ι O] ai.o rfl rfl ξ rfl (by simp[Value.oneCell']) ?_;refine⟨qk H.o,d _ _ ?_⟩;clear d K;go_simp
       repeat (first | (refine jg rfl rfl (qk H.o) ?_) | (refine qH rfl rfl (qk H.o) ?_;intro K d;go_big_quiet_op;go_big_quiet_on))
       refine zg ?_;go_wp2;go_meet;exact⟨A,rfl,rfl,ad.o,H.o⟩
      ·(refine qO rfl rfl ?_;intro K d;unfold jn;go_simp)
       refine⟨qk (aw.o.al _),d _ _ ?_⟩;clear d K;obtain⟨A,aa⟩:=ν (w5.heap.size);obtain⟨w8,ah⟩:=ν (w5.alloc (.cells #[μ false,false,ι 0,ι 0] 122));have aO:Hid (w8.heap[A]? =some (.cells #[μ false,false,ι 0,ι 0] 122 (0,0))):=κ (by rw[<-ah,<-aa];exact qj w5 _);have aH:Hid (qa G w8):=κ (by rw[<-ah];exact aw.o.al _);have ap:Hid (G.heap.size<=A):=κ (by rw[<-aa];exact aw.o.size)
       (try rw[ah])
       (try rw[aa])
       clear ah aa
       (refine qO rfl rfl ?_;intro K d;unfold jn;go_simp)
       refine(ar.o _).mono ?_;rintro e w9 ⟨rfl,am⟩;have ac:=κ (aH.o.trans am);have ai:=κ (qc am aO.o);clear am;refine⟨_,rfl,qk ac.o,d _ _ ?_⟩;clear d K
       repeat (first | (refine jg rfl rfl (qk ac.o) ?_) | (refine qH rfl rfl (qk ac.o) ?_;intro K d;go_big_quiet_op;go_big_quiet_on))
       refine qO rfl rfl ?_;intro K d;have H:=κ (ac.o.row ap.o #[μ U,M,ι N,ι O]);have ad:=κ (jM ai.o #[μ U,M,ι N,ι O]);refine xw 122 (.tmp 6) (.tmp 50) rfl A 122 _ #[μ U,M,ι N,ι O] ai.o rfl rfl ξ rfl (by simp[Value.oneCell']) ?_;refine⟨qk H.o,d _ _ ?_⟩;clear d K;go_simp
       repeat (first | (refine jg rfl rfl (qk H.o) ?_) | (refine qH rfl rfl (qk H.o) ?_;intro K d;go_big_quiet_op;go_big_quiet_on))
       refine zg ?_;go_wp2;go_meet;exact⟨A,rfl,rfl,ad.o,H.o⟩
     ·(refine qO rfl rfl ?_;intro K d;unfold jn;go_simp)
      refine⟨qk ((qa.drewN G 1).al _),d _ _ ?_⟩;clear d K;obtain⟨ab,aN⟩: ∃ab:World,G.drewN 1=ab:=⟨_,rfl⟩;have af:Hid (qa G ab):=κ (by rw[<-aN];exact qa.drewN G 1)
      (try rw[aN])
      (try rw[show G.heap.size=ab.heap.size from by rw[<-aN];rfl])
      clear aN;obtain⟨A,aa⟩:=ν (ab.heap.size);obtain⟨w8,ah⟩:=ν (ab.alloc (.cells #[μ false,false,ι 0,ι 0] 122));have aO:Hid (w8.heap[A]? =some (.cells #[μ false,false,ι 0,ι 0] 122 (0,0))):=κ (by rw[<-ah,<-aa];exact qj ab _);have aH:Hid (qa G w8):=κ (by rw[<-ah];exact af.o.al _);have ap:Hid (G.heap.size<=A):=κ (by rw[<-aa];exact af.o.size)
      (try rw[ah])
      (try rw[aa])
      clear ah aa
      (refine qO rfl rfl ?_;intro K d;unfold jn;go_simp)
      refine(aS.o _ aH.o).mono ?_;rintro e w6 ⟨rfl,ao⟩;have bx:=κ (aH.o.trans ao);have bW:=κ (qc ao aO.o);clear ao;refine⟨_,rfl,qk bx.o,d _ _ ?_⟩;clear d K
      (refine qO rfl rfl ?_;intro K d;unfold jn;go_simp)
      refine(ar.o _).mono ?_;rintro e w9 ⟨rfl,am⟩;have ac:=κ (bx.o.trans am);have ai:=κ (qc am bW.o);clear am;refine⟨_,rfl,qk ac.o,d _ _ ?_⟩;clear d K
      repeat (first | (refine jg rfl rfl (qk ac.o) ?_) | (refine qH rfl rfl (qk ac.o) ?_;intro K d;go_big_quiet_op;go_big_quiet_on))
      refine qO rfl rfl ?_;intro K d;have H:=κ (ac.o.row ap.o #[μ U,M,ι N,ι O]);have ad:=κ (jM ai.o #[μ U,M,ι N,ι O]);refine xw 122 (.tmp 6) (.tmp 50) rfl A 122 _ #[μ U,M,ι N,ι O] ai.o rfl rfl ξ rfl (by simp[Value.oneCell']) ?_;refine⟨qk H.o,d _ _ ?_⟩;clear d K;go_simp
      repeat (first | (refine jg rfl rfl (qk H.o) ?_) | (refine qH rfl rfl (qk H.o) ?_;intro K d;go_big_quiet_op;go_big_quiet_on))
      refine zg ?_;go_wp2;go_meet;exact⟨A,rfl,rfl,ad.o,H.o⟩
    case rest=>
    obtain⟨A,rfl,rfl,bA,bQ⟩:=hcut;have ad:=κ bA;have H:=κ bQ;clear bA bQ;have cl:=κ (aF.o.on H.o);have ae:=κ (bv.o.on (av.o.trans H.o));have a0:=β0 ad.o;have cK:=β1 ad.o;have cL:=β2 ad.o;have a3:=β3 ad.o;have cZ:=β3 ae.o.blk;have da:=β4 ae.o.blk;have db:=β5 ae.o.blk;have dc:=β6 ae.o.blk;have cS:=qd ae.o.blk 3;have cT:=qd ae.o.blk 4;have cU:=qd ae.o.blk 5;have cV:=qd ae.o.blk 6;have aB:=κ (cl.o.strSet (t':={t with asks:=⟨U,M,N,O⟩}) aD.o bq.o ae.o ((((qg.set (S:=λb=>b=p) (qg.refl _ _) (p:=⟨p,3,none⟩) rfl (μ U)).set (p:=⟨p,4,none⟩) rfl (μ M)).set (p:=⟨p,5,none⟩) rfl (ι N)).set (p:=⟨p,6,none⟩) rfl (ι O)) (qB (qp (qp (qp (qp ae.o.blk 3 _) 4 _) 5 _) 6 _) rfl) rfl);have aI:=κ (cj.o.trans ((aF.o.at.stay H.o).trans aB.o.2));obtain⟨cJ,aY⟩:=ν (((((wc.setCell ⟨p,3,none⟩ (μ U)).setCell ⟨p,4,none⟩ (μ M)).setCell ⟨p,5,none⟩ (ι N)).setCell ⟨p,6,none⟩ (ι O)));rw[aY] at aB aI;have bi:=κ (aI.o.blk η az.o);have ax:=β0 bi.o;have cO:=β1 bi.o;cases bh with
    | false=>
     have aQ:Hid (sj.tick1 (I,o2)={sj with strs:=qx sj.strs (I,o2) {t with asks:=⟨U,M,N,O⟩}}):=κ (by rw[bn.o];rfl);go_wp2
     (try rw[aY])
     go_roundw
     case rel=>exact⟨j+1,τ,by go_num,by rw[bt.o,List.foldl_append,bs.o];show qI w0 _ k (sj.tick1 (I,o2)) _;rw[aQ.o];exact aB.o.1.sub (λb Y=>List.mem_append_right _ Y),aR.o.trans (bz.o.trans (aI.o.sub (λb Y=>List.mem_append_right _ Y)))⟩
     case measure=>simp[intOf];omega
    | true=>
     have aQ:Hid (sj.tick1 (I,o2)=({sj with strs:=qx sj.strs (I,o2) {t with asks:=⟨U,M,N,O⟩}}:RmS).request (I,o2)):=κ (by rw[bn.o];rfl);have cc:=κ (CF aB.o.1 I o2 cf.o cd.o)
     go_wp2_with ((try rw[aY]);(go_at_call 80;(go_call cc.o as e dh ⟨rfl,bE,bT⟩;have bZ:=κ bE;have ch:=κ bT;clear bE bT)))
     go_roundw
     case rel=>exact⟨j+1,τ,by go_num,by rw[bt.o,List.foldl_append,bs.o];show qI w0 _ k (sj.tick1 (I,o2)) _;rw[aQ.o];exact bZ.o.sub (λb Y=>List.mem_append_right _ Y),aR.o.trans (bz.o.trans ((aI.o.trans ch.o).sub (λb Y=>List.mem_append_right _ Y)))⟩
     case measure=>simp[intOf];omega
   ·obtain rfl:j=J.length:=by omega
    have ct: ¬(J.length:Int)<(J.length:Int):=by omega
    go_wp2;go_ret;exact⟨by rw[aC.o];rfl,by rw[aC.o];have:=aK;rw[List.take_length] at this;exact this.sub (λb Y=>List.mem_append_right _ Y),ci.o.trans (aR.o.sub (λb Y=>List.mem_append_right _ Y))⟩
end
end
section
open _root_.Go.Proofs.Tryz
section
open _root_.Go.Proofs.Tryz renaming func151->Ξa,ntmps151->Ξb
theorem Lv {w:World} {v:Value} {l:List Int} (x:Int) (s:SlI .i64 w v l):Calls prog 151 #[v,ι x] w (Ge x l w):=Ψ8
end
theorem MJ {w:World} {v:Value} {l:List Int} (x:Int) (s:SlI .i64 w v l):Calls prog 106 #[v,ι x] w λe w'=>e= .returned (μ (decide (x∈l)))/\w=w':=by
 go_enter func106,ntmps106
 go_wp2_with (go_at_call 151;(go_call Lv x s as e w2 ⟨n,d,H,rfl,rfl⟩;have G:=κ d;clear d))
 go_ret;exact⟨qZ (by rw[Bool.eq_iff_iff];simp only[decide_eq_true_eq];exact G.o),rfl⟩
def wkL (L M:List Int):List Og:=(0,0)::(1,0)::(M.filter λx=>decide (x∈L)).flatMap λx=>[(2,x),(3,x),(4,x)]
theorem Wy (L G:List Int):(wkL L G).length<=2+3* G.length:=by
 unfold wkL;have h: ∀d:List Int,(d.flatMap λx=>[((2,x):Og),(3,x),(4,x)]).length=3* d.length:=by
  intro d
  induction d with
  | nil=>rfl
  | cons x d ih=>rw[List.flatMap_cons,List.length_append,ih,List.length_cons,List.length_cons,List.length_cons,List.length_cons,List.length_nil];omega
 have:=List.length_filter_le (λx=>decide (x∈L)) G;rw[List.length_cons,List.length_cons,h];omega
theorem Vk (L d:List Int) (x:Int):wkL L (d++[x])=wkL L d++if x∈L then [(2,x),(3,x),(4,x)] else []:=by
 unfold wkL;rw[List.filter_append,List.flatMap_append];by_cases h:x∈L
 ·rw[if_pos h];simp[h]
 ·rw[if_neg h];simp[h]
theorem Vo {j:Nat} (h:j<6):subIds.take (j+1)=subIds.take j++[(j:Int)]:=by
 have:j=0∨j=1∨j=2∨j=3∨j=4∨j=5:=by omega
 rcases this with rfl | rfl | rfl | rfl | rfl | rfl<;>rfl
theorem Un (x:Int) {n:Nat} (h:n<3):([(2,x),(3,x),(4,x)]:List Og).take (n+1)=([(2,x),(3,x),(4,x)]:List Og).take n++[(((2+n:Nat):Int),x)]:=by
 have:n=0∨n=1∨n=2:=by omega
 rcases this with rfl | rfl | rfl<;>rfl
theorem Aw (w:World):je 2 RO (λ_=>False) (w.alloc (.cells #[ι 0,ι 0,ι 1,ι 0] 36)) w.heap.size 36 (δ (some ⟨w.heap.size,0,none⟩) 2 2) [(0,0),(1,0)]:=
 ⟨⟨[ι 0,ι 0,ι 1,ι 0],⟨rfl,Or.inr ⟨w.heap.size,2,_,rfl,Nat.le_refl _,qj w _,Nat.le_refl _,by unfold maxLen;omega,rfl,rfl⟩⟩,λi hi=>λw' _=>by
  have:i=0∨i=1:=by simp at hi;omega
  rcases this with rfl | rfl<;>rfl⟩,λb _ h=>h⟩
theorem KF {w:World} {v:Value} {L:List Int} (s:SlI .i64 w v L):
  Calls prog 66 #[v] w λe w'=> ∃v',e= .returned v'/\je 2 RO (λ_=>False) w' w.heap.size 36 v' (yp L)/\qa w w':=by
 obtain⟨aA,hi,av,aw,ax⟩:=info_parts (P:=prog) (e:=36) (z:= θ #[ι 0,ι 0]) (size:=2) (bytes:=16) ξ;have aj:=κ s;obtain⟨aH,cap,rfl,_⟩:=id s;have e0:yp L=wkL L (subIds.take 6):=rfl;rw[e0];have an:=κ (qa.alloc w (.cells #[ι 0,ι 0,ι 1,ι 0] 36));have ap:=κ (Aw w);clear s e0
 go_enter func66,ntmps66
 go_wp2
 go_loopw [3,9] (λu ac wr=> ∃i:Nat,i<=6/\ac= ι i/\(∃J I H,u= δ J I H)/\je 2 RO (λ_=>False) wr w.heap.size 36 u (wkL L (subIds.take i))/\qa w wr) (λ_ ac _=>6-(intOf ac).toNat)
 case atStart=>exact⟨0,τ,rfl,⟨_,_,_,rfl⟩,ap.o,an.o⟩
 case round=>
  obtain⟨i,aE,rfl,⟨J,I,H,rfl⟩,O,N⟩:=hrel;have G:=κ O;have d:=κ N;clear O N;by_cases hlt:i<6
  ·have ar:(i:Int)<6:=by omega
   have ad:=κ (Vo hlt);have ae:=κ (Wy L (subIds.take i));have am:Hid ((subIds.take i).length=i):=κ (by rw[List.length_take];show min i 6=i;omega);have Y:=κ (MJ (i:Int) (aj.o.keep d.o));obtain⟨c,M⟩:=ν (decide ((i:Int)∈L));rw[M] at Y;cases c with
   | false=>
    have U:Hid (wkL L (subIds.take (i+1))=wkL L (subIds.take i)):=κ (by rw[ad.o,Vk,if_neg (of_decide_eq_false M),List.append_nil]);clear M
    go_wp2_with (go_at_call 106;(go_call Y.o as e w2 ⟨rfl,aa⟩;obtain rfl:=aa))
    go_roundw
    case rel=>exact⟨i+1,τ,by go_num,⟨_,_,_,rfl⟩,by rw[U.o];exact G.o,d.o⟩
    case measure=>simp[intOf];omega
   | true=>
    have U:Hid (wkL L (subIds.take (i+1))=wkL L (subIds.take i)++[(2,(i:Int)),(3,(i:Int)),(4,(i:Int))]):=κ (by rw[ad.o,Vk,if_pos (of_decide_eq_true M)]);clear M;obtain⟨B,af⟩:=ν (wkL L (subIds.take i));rw[af] at U ae G;clear af
    go_wp2_with (go_at_call 106;(go_call Y.o as e w2 ⟨rfl,aa⟩;obtain rfl:=aa))
    go_loopw [3,5] (λu st wr=> ∃n:Nat,n<=3/\st= ι ((2+n:Nat):Int)/\(∃J I H,u= δ J I H)/\je 2 RO (λ_=>False) wr w.heap.size 36 u (B++([(2,(i:Int)),(3,(i:Int)),(4,(i:Int))]:List Og).take n)/\qa w wr) (λ_ st _=>5-(intOf st).toNat)
    case atStart=>exact⟨0,τ,rfl,⟨_,_,_,rfl⟩,by rw[List.take_zero,List.append_nil];exact G.o,d.o⟩
    case round=>
     clear G d;obtain⟨n,aF,rfl,⟨J,I,H,rfl⟩,O,N⟩:=hrel;have G:=κ O;have d:=κ N;clear O N;by_cases hltn:n<3
     ·have au:((2+n:Nat):Int)<=4:=by omega
      have ak:=κ (Un (i:Int) hltn);have ah:Hid (∀b,(δ J I H).ownBlock=some b->w.heap.size<=b):=κ (λb h=>G.o.ge h);have aC:(B++([(2,(i:Int)),(3,(i:Int)),(4,(i:Int))]:List Og).take n).length<=23:=by
       have:=ae.o;have:=am.o;rw[List.length_append,List.length_take];show B.length+min n 3<=23;omega
      have ai:=κ (G.o.on (qa.alloc wr (.cells #[ι ((2+n:Nat):Int),ι (i:Int)] 36)))
      go_wp2_with (at_builtin;(refine jN (R:=RO) (D:=λ_=>False) _ rfl (.tmp 20) (.tmp 24) 68 rfl w.heap.size 36 aA (θ #[ι 0,ι 0]) 2 16 underlying68 hi av aw ax rfl ζ _ (B++([(2,(i:Int)),(3,(i:Int)),(4,(i:Int))]:List Og).take n) rfl ai.o wr.heap.size [ι ((2+n:Nat):Int),ι (i:Int)] (((2+n:Nat):Int),(i:Int)) rfl rfl (zS η) (by simp[Value.oneCell']) (λw' _=>rfl) (λb h=>h.elim) ζ τ (d.o.al _).size ?_;intro v' w8 ab ag aq;have aB:Hid (qa w w8):=κ (Below.grown (d.o.al _) ag (d.o.al _).size ah.o);obtain⟨aI,aG,aD,rfl,ay,az⟩:=ab.shape;have ao:=κ ab;clear ab ag aq ay az))
      go_roundw
      case rel=>exact⟨n+1,τ,by go_num,⟨_,_,_,rfl⟩,by rw[ak.o,<-List.append_assoc];exact ao.o,aB.o⟩
      case measure=>simp[intOf];omega
     ·obtain rfl:n=3:=by omega
      have au: ¬((2+3:Nat):Int)<=4:=by omega
      go_wp2;go_roundw
      case rel=>exact⟨i+1,τ,by go_num,⟨_,_,_,rfl⟩,by rw[U.o];exact G.o,d.o⟩
      case measure=>simp[intOf];omega
  ·obtain rfl:i=6:=by omega
   have ar: ¬((6:Nat):Int)<6:=by omega
   go_wp2;go_ret;exact⟨_,rfl,G.o,d.o⟩
theorem Gw:prog.eqGuardType prog.depth 36=false:=by kernel_rfl
theorem Ea (d G H I:Int) (w:World):(binOp .eql 36 (θ #[ι d,ι G]) (θ #[ι H,ι I])).run prog w= .ok (μ (decide (((d,G):Og)=(H,I)))) w:=by
 have h:(Op.equalIn 10000 36 (θ #[ι d,ι G]) (θ #[ι H,ι I])).run prog w= .ok (decide (((d,G):Og)=(H,I))) w:=ZX (d,G) (H,I) w;rw[run_eql_struct,h];rfl
def JQ (w:World) (oa:Option Addr) (L:List Og):Prop:=L.length<=maxLen/\ ∀w',qa w w'-> ∀i (hi:i<L.length),∃b,oa=some ⟨b,0,none⟩/\w'.cell? ⟨b,i* 2,none⟩=some (.int .i64 L[i].1)/\w'.cell? ⟨b,i* 2+1,none⟩=some (.int .i64 L[i].2)
theorem LP {w:World} {v:Value} {L:List Og} {base:Nat} (h:je 2 RO (λ_=>False) w base 36 v L): ∃oa cap,v= δ oa L.length cap/\JQ w oa L:=by
 obtain⟨⟨xs,d,r⟩,_⟩:=h;rcases id d.2 with ⟨rfl,H⟩ | ⟨b,cap,cur,rfl,J,I,M,N,_⟩
 ·exact⟨none,0,by rw[H],by rw[H];exact Nat.zero_le _,λw' _ i hi=>by omega⟩
 ·refine⟨_,cap,rfl,τ,λw' m i hi=>⟨b,rfl, ?_, ?_⟩⟩
  ·have e:(xs.drop (i* 2)).take 2=[ι L[i].1,ι L[i].2]:=(r i hi).read;have e0:=congrArg (λl:List Value=>l[0]?) e;simp at e0;rw[m.cells _ _ (lt_of_block I),d.cellAt _ τ];exact e0
  ·have e:(xs.drop (i* 2)).take 2=[ι L[i].1,ι L[i].2]:=(r i hi).read;have G:=congrArg (λl:List Value=>l[1]?) e;simp at G;rw[m.cells _ _ (lt_of_block I),d.cellAt _ τ];exact G
theorem Lt {w:World} {ak:Option Addr} {cap:Nat} {L:List Og} (d G:Int) (h:JQ w ak L):
  Calls prog 100 #[δ ak L.length cap,θ #[ι d,ι G]] w λe w'=> ∃n:Int,(0<=n↔(d,G)∈L)/\ -1<=n/\e= .returned (ι n)/\qa w w':=by
 obtain⟨ay,ai⟩:=h;have M:=κ ai;unfold maxLen at ay;obtain⟨W1,J⟩:=ν (w.alloc (.cells #[ι d,ι G] 36));have I:Hid (qa w W1):=κ (by rw[<-J];exact qa.alloc _ _);have am:Hid (W1.heap[w.heap.size]? =some (.cells #[ι d,ι G] 36 (0,0))):=κ (by rw[<-J];exact qj w _);have az:=Gw;clear ai
 go_enter func100,ntmps100
 go_wp2
 (try rw[J])
 clear J
 go_loopw [8] (λU wr=> ∃k:Nat,k<=L.length/\U= ι k/\(d,G)∉L.take k/\qa W1 wr) (λU _=>L.length-(intOf U).toNat)
 case atStart=>exact⟨0,τ,rfl,η,qa.refl _⟩
 case round=>
  obtain⟨j,aA,rfl,ah,ag⟩:=hrel;have ac:=κ ah;have H:=κ ag;clear ah ag;by_cases hlt:j<L.length
  ·have ax:(j:Int)<(L.length:Int):=by omega
   obtain⟨b,rfl,_,_⟩:=M.o _ (I.o.trans H.o) j hlt;have aj:L.take (j+1)=L.take j++[L[j]]:=List.take_succ_eq_append_getElem hlt;have aq:=κ aj;have ap:=κ (List.getElem_mem hlt);have ae: ∀x:qt wr,x.w'.cell? ⟨b,j* 2,none⟩=some (ι (L[j]).1):=λx=>by
    obtain⟨au,e,av,_⟩:=M.o x.w' (I.o.trans (H.o.trans x.h)) j hlt;injection e with e
    injection e with e
    subst e;exact av
   have af: ∀x:qt wr,x.w'.cell? ⟨b,j* 2+1,none⟩=some (ι (L[j]).2):=λx=>by
    obtain⟨au,e,_,aw⟩:=M.o x.w' (I.o.trans (H.o.trans x.h)) j hlt;injection e with e
    injection e with e
    subst e;exact aw
   clear aj;generalize L[j]=y at *;obtain⟨Y,aa⟩:=y;simp only at ae af;have N:=λ(x:qt wr)=>qc (H.o.trans x.h) am.o
   have an:=λx=>β0 (N x);have ao:=λx=>β1 (N x);clear N
   obtain⟨c,O⟩:=ν (decide (((d,G):Og)=(Y,aa)));have al:=λw=>Ea d G Y aa w
   rw[O] at al;have ab:=κ O;clear O
   go_upto_region 4 with fail
   refine Qn wr 6 6 [] ?_
   refine Qq6 ?_
   refine qA ?_;clear an ao ae af al;have ad:=κ (qa.drewN wr 1);cases c with
   | true=>
    have e:((d,G):Og)=(Y,aa):=of_decide_eq_true ab.o;have ar:Hid ((d,G)∈L):=κ (by rw[e];exact ap.o);clear e;go_wp2;go_ret;exact⟨j,⟨λ_=>ar.o,λ_=>by omega⟩,τ,rfl,I.o.trans (H.o.trans ad.o)⟩
   | false=>
    go_wp2;go_roundw
    case rel=>exact⟨j+1,τ,by go_num,by rw[aq.o,List.mem_append,List.mem_singleton];exact λh=>h.elim ac.o (of_decide_eq_false ab.o),H.o.trans ad.o⟩
    case measure=>simp[intOf];omega
  ·obtain rfl:j=L.length:=by omega
   have ax: ¬(L.length:Int)<(L.length:Int):=by omega
   go_wp2;go_ret;refine⟨-1,⟨λh=>by omega,λh=> ?_⟩,τ,rfl,I.o.trans H.o⟩;have:=ac.o;rw[List.take_length] at this;exact absurd h this
theorem MH {w:World} {H:Option Addr} {cap:Nat} {L:List Og} (d G:Int) (h:JQ w H L):
  Calls prog 62 #[δ H L.length cap,θ #[ι d,ι G]] w λe w'=>e= .returned (μ (decide ((d,G)∈L)))/\qa w w':=by
 have I:=κ (qj w (.cells #[ι d,ι G] 36));have Y:=β0 I.o;have aa:=β1 I.o;have N:=κ (Lt (w:=w.alloc (.cells #[ι d,ι G] 36)) (cap:=cap) d G (⟨h.1,λw' m=>h.2 w' ((qa.alloc _ _).trans m)⟩:JQ _ H L));clear h
 go_enter func62,ntmps62
 go_wp2_with (go_at_call 100;(go_call N.o as e w2 ⟨n,J,ab,rfl,M⟩;have O:=κ J;have U:=κ M;clear J M))
 go_ret;exact⟨qZ (by rw[Bool.eq_iff_iff];simp only[decide_eq_true_eq];exact O.o),(qa.alloc _ _).trans U.o⟩
end
section
variable {s s':RmS} {n:Nat}
theorem qV.write (h:qV n s) (x:Int) (acc:Bool):qV (n+1) (s.write x acc):=by
 have G:=h.ow.write x acc;unfold RmS.write at G ⊢;cases hl:qh s.lanes x with
 | none=>exact h.up
 | some l=>
  rw[hl] at G;simp only at G ⊢;obtain⟨aD,aK,aL,aM,aN,aO,aP,aQ,aR,aE,aF,aG,aH,J,N,aI,aJ⟩:=h.num;have O: ∀c:Bool,(if c then jp s.book x (qX l acc).2.1 (qX l acc).2.2.1 else s.book).length=s.book.length:=by
   intro c;cases c
   ·rfl
   ·exact zq _ _ _ _
  have aw:=h.ow.sub x l hl;have aS:(qX l acc).1.W.length<=l.W.length+1:=by
   rcases uV l acc with ⟨_,e⟩ | ⟨o,C,aq,⟨H,e⟩ | ⟨_,_,H,e⟩⟩
   ·rw[e];simp
   ·rw[e];simp only;split
    ·simp
    ·omega
   ·rw[e];simp
  have av:(qX l acc).1.wanted=l.wanted:=by
   rcases uV l acc with ⟨_,e⟩ | ⟨o,C,aq,⟨H,e⟩ | ⟨_,_,H,e⟩⟩<;>rw[e]
  have ar:(∀y,(qh (zM s.tab x).1.u y).isSome=(qh s.tab.u y).isSome)/\(zM s.tab x).1.o=s.tab.o/\(zM s.tab x).1.s=s.tab.s/\(∀y d,qh (zM s.tab x).1.u y=some d->d.2.1=true->y≠x/\qh s.tab.u y=some d)/\(zM s.tab x).1.u.length<=n:=by
   unfold zM;rw[if_pos (subIds_iff.1 aw.1)];split
   ·rename_i I;refine⟨λy=> ?_,rfl,rfl,λy d a b=> ?_, ?_⟩
    ·simp only;rw[qF];split
     ·rename_i e;rw[e];exact I.1.symm
     ·rfl
    ·simp only at a;rw[qF] at a;split at a
     ·injection a with e
      rw[<-e] at b;cases b
     ·rename_i e;exact⟨e,a⟩
    ·simp only;rw[vJ _ I.1];exact J
   ·rename_i I;refine⟨λy=>rfl,rfl,rfl,λy d a b=>⟨λe=> ?_,a⟩,J⟩;rw[e] at a;exact I ⟨by rw[a];rfl,by rw[a];exact b⟩
  have U: ∀(T:TS) (b:Bk),T.u.length<=n->b.length=s.book.length->JR (n+1) {s with lanes:=qx s.lanes x (qX l acc).1,tab:=T,book:=b}:=by
   intro T b aT H;obtain⟨ac,ai,aj,ak,al,am,an,ao,ap,ad,ae,af,ag,aA,aB,aC,ah⟩:=h.num.up;refine⟨ac,ai,aj,ak,al,am,an,ao,ap,ad,ae,af,ag,by simp only;omega,λy m a=> ?_,by simp only;omega,ah⟩;simp only at a;rw[qF] at a;split at a
   ·injection a with e
    subst e;have:=N x l hl;omega
   ·have:=N y m a;omega
  cases hg:(qX l acc).1.gone with
  | true=>
   rw[hg] at G;simp only[if_true] at G ⊢;obtain⟨Y,ay,M,aa,az⟩:=ar;refine⟨G,⟨λy ax=>h.tb.keys y (by rw[<-Y];exact ax),λy=> ?_,λy d a b=> ?_,λy d a b=> ?_,λp m au=> ?_,λy o a=> ?_,by simp only;rw[M];exact h.tb.src⟩,U _ _ az (by rw[show ∀(m:Bk) a f,(vM m a f).length=m.length from λm a f=>by simp[vM],O])⟩
   ·simp only;rw[Y,h.tb.lane,qF];split
    ·rename_i e;rw[e,hl];rfl
    ·rfl
   ·obtain⟨e,ab⟩:=aa y d a b;obtain⟨m,c1,c2,c3⟩:=h.tb.act y d ab b;exact⟨m,by simp only;rw[qF,if_neg e];exact c1,c2,c3⟩
   ·simp only;rw[M];exact h.tb.pub y d (aa y d a b).2 b
   ·simp only;rw[M];exact h.tb.str p m au
   ·simp only at a ⊢;rw[ay] at a;exact h.tb.org y o a
  | false=>
   rw[hg] at G;simp only[Bool.false_eq_true,if_false] at G ⊢;refine⟨G,⟨h.tb.keys,λy=> ?_,λy d a b=> ?_,h.tb.pub,h.tb.str,h.tb.org,h.tb.src⟩,U s.tab _ J (O _)⟩
   ·simp only;rw[h.tb.lane,qF];split
    ·rename_i e;rw[e,hl];rfl
    ·rfl
   ·obtain⟨m,c1,c2,c3⟩:=h.tb.act y d a b;by_cases e:y=x
    ·subst e;rw[hl] at c1;injection c1 with e2
     subst e2;exact⟨(qX l acc).1,by simp only;rw[qF,if_pos rfl],hg,by rw[av];exact c3⟩
    ·exact⟨m,by simp only;rw[qF,if_neg e];exact c1,c2,c3⟩
theorem qV.ret (h:qV n s) (r:List (Og×Bool)):qV n {s with ret:=r}:=by
 obtain⟨d,Y,aa,ab,ac,ad,ae,af,ag,G,H,I,J,M,N,O,U⟩:=h.num;exact⟨h.ow.same rfl rfl rfl rfl,h.tb.loc rfl (λ_=>rfl) (λ_=>rfl),⟨d,Y,aa,ab,ac,ad,ae,af,ag,G,H,I,J,M,N,O,U⟩⟩
theorem qV.drain (h:qV n s) (w:Og):qV (n+1) (s.drain w):=by
 unfold RmS.drain;split
 ·obtain⟨ae,ar,au,av,aw,ax,ay,az,aA,aj,ak,al,am,an,ao,ap,aq⟩:=h.num;have aB:=(kF ae).1;obtain⟨d,O,U,Y,aa,ai,ab,ac,ad,G,ag,ah,H,I,J,M,N⟩:=h.num.up;exact⟨h.ow.same rfl rfl rfl rfl,h.tb.loc rfl (λ_=>rfl) (λ_=>rfl),⟨d,O,U,Y,aa,by simp only;omega,ab,ac,ad,G,λb af=>by simp at af,by simp only[List.length_nil];omega,H,I,J,M,N⟩⟩
 ·split
  ·exact(za vn _ s).ok h.up (qR.drainOs _ h.ow)
  ·exact(vt s w).ok h.up (h.ow.drainL w)
theorem qV.endW (h:qV n s) (w:Og):qV (n+1) (s.endW w):=by
 unfold RmS.endW;split
 ·exact(h.drain w).ret _
 ·exact h.drain w
theorem qV.stepW (h:qV n s) (w:Og) (acc:Bool):qV (n+1) (s.stepW w acc):=by
 unfold RmS.stepW;split
 ·exact h.endW w
 ·split
  ·exact h.read
  ·split
   ·exact h.order.up
   ·split
    ·exact(h.choose w.2).up
    ·split
     ·exact(h.rewrite w.2).up
     ·exact h.write w.2 acc
theorem qV.pick (h:qV n s) (w:Og) (acc:Bool):qV (n+1) (s.pick w acc).1:=by
 unfold RmS.pick;split
 ·exact h.stepW w acc
 ·exact h.up
theorem qV.publish (h:qV n s) (p s0 s1 s2:Int) (I: ∀v∈[s0,s1,s2],0<=v/\v<=4294967295):qV (n+1) (s.publish p s0 s1 s2).1:=by
 unfold RmS.publish;split
 ·exact h.up
 ·split
  ·rename_i au;simp only;have G:=au;unfold vA at G;split at G
   ·rename_i M;split at G
    ·simp at G
    ·rename_i ao;split at G
     ·simp at G
     ·rename_i N;split at G
      ·simp at G
      ·rename_i aq;have e:(vA s.tab p s0 s1 s2).1={s.tab with o:=qx (qx (qx s.tab.o s0 (p,0)) s1 (p,1)) s2 (p,2),s:=qx (qx (qx s.tab.s (p,0) s0) (p,1) s1) (p,2) s2}:=by
        unfold vA;rw[if_pos M,if_neg ao,if_neg N,if_neg aq];rfl
       rw[e];have ar: ∀k,qh s.strs (p,k)=none:=λk=>by
        cases H:qh s.strs (p,k) with
        | none=>rfl
        | some t=>
         have:=h.tb.str p k (XD (h.ow.org _ t H));rw[H] at this;exact absurd this.symm N
       have key: ∀(o:Og) {α:Type} {m:List (Og×α)} {a b c:α},(qh (qx (qx (qx m (p,0) a) (p,1) b) (p,2) c) o).isSome=((decide (o=(p,2))||(decide (o=(p,1))||decide (o=(p,0))))||(qh m o).isSome):=by
        intro o α m a b c;rw[qF,qF,qF];by_cases c2:o=(p,2)
        ·rw[if_pos c2,decide_eq_true c2];rfl
        ·rw[if_neg c2,decide_eq_false c2];by_cases c1:o=(p,1)
         ·rw[if_pos c1,decide_eq_true c1];rfl
         ·rw[if_neg c1,decide_eq_false c1];by_cases c0:o=(p,0)
          ·rw[if_pos c0,decide_eq_true c0];rfl
          ·rw[if_neg c0,decide_eq_false c0];rfl
       have J: ∀o t,qh (qx (qx (qx s.strs (p,0) (uc s.cfg)) (p,1) (uc s.cfg)) (p,2) (uc s.cfg)) o=some t->t=uc s.cfg∨qh s.strs o=some t:=by
        intro o t a;rw[qF] at a;split at a
        ·injection a with e;exact Or.inl e.symm
        ·rw[qF] at a;split at a
         ·injection a with e;exact Or.inl e.symm
         ·rw[qF] at a;split at a
          ·injection a with e;exact Or.inl e.symm
          ·exact Or.inr a
       obtain⟨O,ag,ah,ai,aj,ak,al,am,an,U,Y,aa,ab,ac,ad,ae,af⟩:=h.num.up;refine⟨(qR.publish h.ow p M ar).same rfl rfl rfl rfl,⟨h.tb.keys,h.tb.lane,h.tb.act,λx av a b=> ?_,λp2 k H=> ?_,λx o a=> ?_,λo v a=> ?_⟩,⟨O,ag,ah,ai,aj,ak,al,am,λo t a b=> ?_,λo t a=> ?_,Y,aa,ab,ac,ad,ae,af⟩⟩
       ·simp only;rw[key,h.tb.pub x av a b,Bool.or_true]
       ·simp only;rw[key,key];by_cases e2:p2=p
        ·subst e2;have ap:k=0∨k=1∨k=2:=by
          have:=of_decide_eq_true H;omega
         rcases ap with rfl | rfl | rfl<;>simp
        ·have d: ∀j i:Int,decide ((p2,j)=(p,i))=false:=λj i=>decide_eq_false λc=>e2 (congrArg Prod.fst c)
         rw[d,d,d,d,d,d,h.tb.str p2 k H]
       ·simp only at a ⊢;rw[key];rw[qF] at a;split at a
        ·injection a with d;rw[<-d];simp
        ·rw[qF] at a;split at a
         ·injection a with d;rw[<-d];simp
         ·rw[qF] at a;split at a
          ·injection a with d;rw[<-d];simp
          ·rw[h.tb.org x o a,Bool.or_true]
       ·simp only at a;rw[qF] at a;split at a
        ·injection a with d;rw[<-d];exact I _ η
        ·rw[qF] at a;split at a
         ·injection a with d;rw[<-d];exact I _ η
         ·rw[qF] at a;split at a
          ·injection a with d;rw[<-d];exact I _ η
          ·exact h.tb.src o v a
       ·rcases J o t a with c | c
        ·rw[c] at b;cases b
        ·exact an o t c b
       ·rcases J o t a with c | c
        ·rw[c];unfold uc;simp only;omega
        ·exact U o t c
   ·simp at G
  ·exact h.up
theorem qV.join (h:qV n s) (x H sq st:Int):qV (n+1) (s.join x H sq st).1:=by
 unfold RmS.join;split
 ·exact h.up
 ·split
  ·rename_i ap;simp only;have G:=ap;unfold yI at G;split at G
   ·rename_i O;split at G
    ·simp at G
    ·rename_i M;have e:(yI s.tab x H).1={s.tab with u:=qx s.tab.u x (H,false,0)}:=by
      unfold yI;rw[if_pos O,if_neg M]
     rw[e];have N:qh s.tab.u x=none:=by
      cases N:qh s.tab.u x with
      | none=>rfl
      | some v=>rw[N] at M;exact absurd rfl M
     have J:qh s.lanes x=none:=by
      have:=h.tb.lane x;rw[N] at this;cases J:qh s.lanes x with
      | none=>rfl
      | some l=>rw[J] at this;cases this
     have ar:=(kF h.num.cfg).1;have au:=h.num.few;obtain⟨Y,ah,ai,aj,ak,al,am,an,ao,aa,ab,ac,ad,aq,ae,af,ag⟩:=h.num.up;refine⟨(qR.join h.ow (subIds_iff.2 O) J (l:=Vd s.cfg.room.toNat s.cfg.most H sq st) (by show 1<=s.cfg.room.toNat;omega) rfl).same rfl rfl rfl rfl,⟨λy I=> ?_,λy=> ?_,λy U a b=> ?_,λy U a b=> ?_,h.tb.str,h.tb.org,h.tb.src⟩,⟨Y,ah,ai,aj,ak,al,am,an,ao,aa,ab,ac,ad, ?_,λy l a=> ?_,af,ag⟩⟩
     ·simp only at I;rw[qF] at I;split at I
      ·rename_i d;rw[d];exact O
      ·exact h.tb.keys y I
     ·simp only;rw[qF,qF];split
      ·rfl
      ·exact h.tb.lane y
     ·simp only at a ⊢;rw[qF] at a;split at a
      ·injection a with d
       rw[<-d] at b;cases b
      ·rename_i d;rw[qF,if_neg d];exact h.tb.act y U a b
     ·simp only at a;rw[qF] at a;split at a
      ·injection a with d
       rw[<-d] at b;cases b
      ·exact h.tb.pub y U a b
     ·have:=Qz x (H,false,(0:Int)) s.tab.u;simp only;omega
     ·simp only at a;rw[qF] at a;split at a
      ·injection a with d
       subst d;simp[Vd]
      ·exact ae y l a
   ·simp at G
  ·exact h.up
theorem Ee (l:LnS) (k:Int):(jO l k).1.W=l.W:=by
 unfold jO
 repeat' split
 all_goals rfl
theorem qV.wantL (h:qV n s) {x:Int} {l:LnS} (d:qh s.lanes x=some l) (k:Int):qV n {s with lanes:=qx s.lanes x (jO l k).1}:=by
 obtain⟨al,am,ai,aj⟩:=Xv l k;obtain⟨H,aa,ab,ac,ad,ae,af,ag,ah,I,J,M,N,O,G,U,Y⟩:=h.num;refine⟨qR.wantL h.ow d k,⟨h.tb.keys,λy=> ?_,λy ak a b=> ?_,h.tb.pub,h.tb.str,h.tb.org,h.tb.src⟩,⟨H,aa,ab,ac,ad,ae,af,ag,ah,I,J,M,N,O,λy m a=> ?_,U,Y⟩⟩
 ·simp only;rw[h.tb.lane,qF];split
  ·rename_i e;rw[e,d];rfl
  ·rfl
 ·obtain⟨m,c1,c2,c3⟩:=h.tb.act y ak a b;simp only;rw[qF];by_cases e:y=x
  ·subst e;rw[d] at c1;injection c1 with e2
   subst e2;exact⟨_,by rw[if_pos rfl],by rw[ai];exact c2,aj c3⟩
  ·exact⟨m,by rw[if_neg e];exact c1,c2,c3⟩
 ·simp only at a;rw[qF] at a;split at a
  ·injection a with e2
   subst e2;rw[Ee];exact G x l d
  ·exact G y m a
theorem qV.want (h:qV n s) (x k:Int):qV (n+1) (s.want x k).1:=by
 unfold RmS.want;split
 ·exact h.up
 ·split
  ·exact h.up
  ·split
   ·exact h.up
   ·cases hl:qh s.lanes x with
    | none=>exact h.up
    | some l=>exact(h.wantL hl k).up
theorem qV.subscribe (h:qV n s) (x p k:Int):qV (n+1) (s.subscribe x p k).1:=by
 unfold RmS.subscribe;split
 ·exact h.up
 ·split
  ·exact h.up
  ·rename_i ar;split
   ·exact h.up
   ·rename_i I;split
    ·rename_i av;cases hl:qh s.lanes x with
     | none=>exact h.up
     | some l=>
      simp only;have G:=av;unfold vL at G;split at G
      ·rename_i U;split at G
       ·rename_i J;split at G
        ·simp at G
        ·rename_i au;have e:(vL s.tab x p).1={s.tab with u:=qx s.tab.u x (((qh s.tab.u x).getD sb0).1,true,p)}:=by
          unfold vL;rw[if_pos U,if_pos J,if_neg au]
         rw[e];have O:l.gone=false:=by
          unfold JV at I;rw[hl] at I
          simpa using I
         have N:=h.wantL hl k;have Y:(jO l k).1.wanted=true/\(jO l k).1.gone=false:=by
          unfold jO;rw[if_neg ar,if_neg (by rw[O];decide)];exact⟨rfl,O⟩
         obtain⟨aa,aj,ak,al,am,an,ao,ap,aq,ab,ac,ad,ae,af,ag,ah,ai⟩:=N.num.up;refine⟨N.ow.same rfl rfl rfl rfl,⟨λy H=> ?_,λy=> ?_,λy M a b=> ?_,λy M a b=> ?_,h.tb.str,h.tb.org,h.tb.src⟩,⟨aa,aj,ak,al,am,an,ao,ap,aq,ab,ac,ad,ae, ?_,ag,ah,ai⟩⟩
         ·simp only at H;rw[qF] at H;split at H
          ·rename_i d;rw[d];exact U.1
          ·exact h.tb.keys y H
         ·simp only;rw[qF,qF];split
          ·rfl
          ·exact h.tb.lane y
         ·simp only at a ⊢;rw[qF] at a ⊢;split at a
          ·rename_i d;rw[if_pos d];exact⟨_,rfl,Y.2,Y.1⟩
          ·rename_i d;rw[if_neg d];exact h.tb.act y M a b
         ·simp only at a ⊢;rw[qF] at a;split at a
          ·injection a with d
           rw[<-d];exact J.2
          ·exact h.tb.pub y M a b
         ·simp only;rw[vJ _ J.1];exact af
       ·simp at G
      ·simp at G
    ·exact h.up
theorem ZN {K V:Type} [DecidableEq K] (k:K): ∀(m:List (K×V)),(yK m k).length<=m.length
 | []=>by simp[yK]
 | (a,b)::l=>by
  unfold yK;split
  ·simp
  ·have:=ZN k l;simp only[List.length_cons];omega
theorem qV.leave (h:qV n s) (H:(s.tab.u.map Prod.fst).Nodup) (x:Int):qV (n+1) (s.leave x).1:=by
 unfold RmS.leave;split
 ·exact h.up
 ·split
  ·rename_i an;simp only;have G:=an;unfold zW at G;split at G
   ·rename_i am;split at G
    ·rename_i al;have e:(zW s.tab x).1={s.tab with u:=yK s.tab.u x}:=by
      unfold zW;rw[if_pos am,if_pos al]
     rw[e];have ap:=h.num.few;obtain⟨M,ad,ae,af,ag,ah,ai,aj,ak,N,O,U,Y,ao,aa,ab,ac⟩:=h.num.up;refine⟨(qR.leave h.ow x).same rfl rfl rfl rfl,⟨λy d=> ?_,λy=> ?_,λy I a b=> ?_,λy I a b=> ?_,h.tb.str,h.tb.org,h.tb.src⟩,⟨M,ad,ae,af,ag,ah,ai,aj,ak,N,O,U,Y, ?_,λy l a=> ?_, ?_,ac⟩⟩
     ·simp only at d;rw[gD H] at d;split at d
      ·cases d
      ·exact h.tb.keys y d
     ·simp only;rw[gD H,uR];split
      ·rfl
      ·exact h.tb.lane y
     ·simp only at a ⊢;rw[gD H] at a;split at a
      ·cases a
      ·rename_i J;rw[uR,if_neg J];exact h.tb.act y I a b
     ·simp only at a;rw[gD H] at a;split at a
      ·cases a
      ·exact h.tb.pub y I a b
     ·have:=ZN x s.tab.u;simp only;omega
     ·simp only at a;rw[uR] at a;split at a
      ·cases a
      ·exact aa y l a
     ·simp only;rw[show ∀(m:Bk) a f,(vM m a f).length=m.length from λm a f=>by simp[vM]];exact ab
    ·simp at G
   ·simp at G
  ·exact h.up
theorem qV.arrive (h:qV n s) {b:List Int} (ag:Byt b) (ah:b.length<=400):qV (n+1) (s.arrive b).1:=by
 have d:=(kF h.num.cfg).1;have al:=h.num.fit;have ak:=h.num.lost;obtain⟨G,Y,aa,ab,ac,ai,ad,ae,af,H,I,aj,J,M,N,O,U⟩:=h.num.up;unfold RmS.arrive;split
 ·exact h.up
 ·split
  ·refine⟨h.ow.same rfl rfl rfl rfl,h.tb.loc rfl (λ_=>rfl) (λ_=>rfl),⟨G,Y,aa,ab,ac,ai,ad,ae,af,H,λc d=> ?_, ?_,J,M,N,O,U⟩⟩
   ·rcases List.mem_append.1 d with d | d
    ·exact I c d
    ·rw[List.mem_singleton] at d;rw[d];exact⟨ag,ah⟩
   ·simp only[List.length_append,List.length_cons,List.length_nil];omega
  ·refine⟨h.ow.same rfl rfl rfl rfl,h.tb.loc rfl (λ_=>rfl) (λ_=>rfl),⟨G,Y,aa,ab,ac,by simp only;omega,ad,ae,af,H,λc d=> ?_, ?_,J,M,N,O,U⟩⟩
   ·rcases List.mem_append.1 d with d | d
    ·exact I c (List.mem_of_mem_tail d)
    ·rw[List.mem_singleton] at d;rw[d];exact⟨ag,ah⟩
   ·simp only[List.length_append,List.length_cons,List.length_nil,List.length_tail];omega
theorem qV.shut (h:qV n s):qV (n+1) s.shut.1:=by
 unfold RmS.shut;split
 ·exact h.up
 ·obtain⟨d,Y,aa,ab,ac,ad,ae,af,ag,G,H,I,J,M,N,O,U⟩:=h.num.up;exact⟨h.ow.same rfl rfl rfl rfl,h.tb.loc rfl (λ_=>rfl) (λ_=>rfl),⟨d,Y,aa,ab,ac,ad,ae,af,ag,G,H,I,J,M,N,O,U⟩⟩
theorem uQ {c:CfR} (d:xY c=true):qV 0 (ud c):=by
 have h:=(kF d).1
 refine⟨⟨λo t a=>(by cases a),λo t a=>(by cases a),λo t H t' a=>(by cases a),λo t a=>(by cases a),λx l a=>(by cases a),λx l a=>(by cases a),λx i a=>(by cases a),λx i v a=>(by cases a)⟩,
  ⟨λx a=>(by cases a),λx=>rfl,λx G a=>(by cases a),λx G a=>(by cases a),λp k _=>rfl,λx o a=>(by cases a),λo v a=>(by cases a)⟩,
  ⟨d,by simp[ud],by simp[ud],by simp[ud],rfl,by simp[ud],by simp[ud],by simp[ud],λo t a=>(by cases a),λo t a=>(by cases a),λb a=>(by cases a),by simp only[ud,List.length_nil];omega,λa b=>(by cases b),by simp[ud],λx l a=>(by cases a),by simp[ud],by simp[ud]⟩⟩
end
end Go.Proofs.YtdgippmmaponfaaGreat
