/- Contracts of the functions that the law reaches, and plain laws; no conditions but those written at each. -/
import Derived.Test.YtlmllmonabafjaaGreatDoorMg21
namespace Go.Proofs.YtlmllmonabafjaaGreatDoor
open Go.Value renaming bool->μ,slice->δ,pointer->π,agg->θ
open Go.IntKind renaming i64->ι,u8->υ,u16->φ,u32->ω,i32->χ,u64->ψ
set_option linter.unusedSimpArgs false
set_option maxHeartbeats 8000000
set_option linter.unusedVariables false
open Go.RowKit
set_option maxRecDepth 100000
section
variable {s s':RmS} {n:Nat}
structure qV (n:Nat) (s:RmS):Prop where
 ow:OwO s
 tb:Gm s
 num:JR n s
theorem qV.up (h:qV n s):qV (n+1) s:=⟨h.ow,h.tb,h.num.up⟩
theorem Loc.ok (h:Loc s s') (k:qV n s) (o:OwO s'):qV n s':=⟨o,h.tb k.tb,h.num k.num⟩
theorem kF {c:CfR} (h:xY c=true):(1<=c.room/\c.room<=8)/\gt c.hold c.wait/\(1<=c.space/\c.space<=c.retry/\c.retry<=1000)/\1<=c.most/\c.most<=10:=by
 unfold xY at h;simp only[Bool.and_eq_true,decide_eq_true_eq] at h;exact h
structure Tk (m:Nat) (now:Int) (s s':RmS):Prop where
 cfg:s'.cfg=s.cfg
 queue:s'.queue=s.queue
 tab:s'.tab=s.tab
 pks:s'.pks=s.pks
 cnt:s'.cnt=s.cnt
 book:s'.book=s.book
 lanes:s'.lanes=s.lanes
 clock:s'.clock=s.clock
 reqs:s'.reqs.length<=s.reqs.length+m
 strs: ∀o,(qh s'.strs o).map (λt=>(t.any,t.great))=(qh s.strs o).map λt=>(t.any,t.great)
 asks: ∀o t',qh s'.strs o=some t'-> ∃t,qh s.strs o=some t/\((0<=t.asks.tries->0<=t'.asks.tries)/\t'.asks.tries<=(if 0<=t.asks.tries then t.asks.tries else 0)+m/\(t'.asks.last=t.asks.last∨t'.asks.last=now))
theorem Ay (s:RmS) (o:Og):Tk 1 s.clock s (s.tick1 o):=by
 have d:Tk 1 s.clock s s:=⟨rfl,rfl,rfl,rfl,rfl,rfl,rfl,rfl,τ,λ_=>rfl,λo t' h=>⟨t',h,λe=>e,by split<;>omega,Or.inl rfl⟩⟩;unfold RmS.tick1;cases ht:qh s.strs o with
 | none=>exact d
 | some t=>
  simp only;have key: ∀o2 t',qh (qx s.strs o {t with asks:=(vU s.cfg.space s.cfg.retry t.asks (s.wants o) s.clock).1}) o2=some t'-> ∃t,qh s.strs o2=some t/\((0<=t.asks.tries->0<=t'.asks.tries)/\t'.asks.tries<=(if 0<=t.asks.tries then t.asks.tries else 0)+1/\(t'.asks.last=t.asks.last∨t'.asks.last=s.clock)):=by
   intro o2 t' h;rw[qF] at h;split at h
   ·rename_i e;injection h with e2
    subst e e2;refine⟨t,ht, ?_⟩;simp only;unfold vU uq;split
    ·refine⟨λe=> ?_, ?_,Or.inl rfl⟩
     ·simp only;split<;>omega
     ·simp only;split<;>split<;>omega
    ·refine⟨λe=> ?_, ?_,Or.inr rfl⟩
     ·simp only;split<;>omega
     ·simp only;split<;>split<;>omega
   ·exact⟨t',h,λe=>e,by split<;>omega,Or.inl rfl⟩
  split
  ·exact⟨rfl,rfl,rfl,rfl,rfl,rfl,rfl,rfl,by unfold RmS.request;simp,xm _ ht rfl,key⟩
  ·exact⟨rfl,rfl,rfl,rfl,rfl,rfl,rfl,rfl,η,xm _ ht rfl,key⟩
theorem ur: ∀(L:List Og) (s:RmS),Tk L.length s.clock s (L.foldl RmS.tick1 s)
 | [],s=>⟨rfl,rfl,rfl,rfl,rfl,rfl,rfl,rfl,η,λ_=>rfl,λo t' h=>⟨t',h,λe=>e,by split<;>omega,Or.inl rfl⟩⟩
 | o::L,s=>by
  rw[List.foldl_cons];have h:=Ay s o;have k:=ur L (s.tick1 o);rw[h.clock] at k;refine⟨k.cfg.trans h.cfg,k.queue.trans h.queue,k.tab.trans h.tab,k.pks.trans h.pks,k.cnt.trans h.cnt,k.book.trans h.book,k.lanes.trans h.lanes,by rw[k.clock,h.clock], ?_,λo=>(k.strs o).trans (h.strs o),λo2 t' O=> ?_⟩
  ·have:=k.reqs;have:=h.reqs;rw[List.length_cons];omega
  ·obtain⟨t1,G,I,c1,d⟩:=k.asks o2 t' O;obtain⟨t0,a0,H,J,N⟩:=h.asks o2 t1 G;refine⟨t0,a0,λe=>I (H e), ?_, ?_⟩
   ·rw[List.length_cons];split at c1<;>split at J<;>split<;>omega
   ·rcases d with d | d
    ·rw[d];exact N
    ·exact Or.inr d
theorem uC (s:RmS):s.origins.length<=9:=Nat.le_trans (List.length_filter_le _ _) ζ
theorem qV.tick (h:qV n s):qV (n+1) s.tick.1:=by
 have I:=h.ow.tick;unfold RmS.tick at I ⊢;split
 ·exact h.up
 ·rename_i an;rw[if_neg an] at I;have k:=ur s.origins {s with clock:=s.clock+1};have az:=uC s;obtain⟨af,ar,au,av,al,aw,ax,ay,am,ag,ah,ai,aj,ao,ak,ap,aq⟩:=h.num;simp only at k I ⊢;generalize List.foldl RmS.tick1 {s with clock:=s.clock+1} s.origins=s' at *;have J:=k.cfg;have N:=k.queue;have O:=k.tab;have H:=k.pks;have d:=k.cnt;have Y:=k.book;have U:=k.lanes;have aa:=k.clock;have ae:=k.reqs;simp only at J N O H d Y U aa ae;refine⟨I,h.tb.loc O (λx=>by rw[U]) (λo=>yt (k.strs o)),⟨by rw[J];exact af,by rw[d];omega,by rw[d];omega,by rw[d];omega,by rw[d,H];exact al,by rw[d];omega,by rw[H];omega,by rw[aa];omega,λo t a b=> ?_,λo t a=> ?_,by rw[N];exact ah,by rw[J,N];exact ai,by rw[H];exact aj,by rw[O];omega,λx l a=> ?_,by rw[Y];omega,τ⟩⟩
  ·obtain⟨t',e,f⟩:=uu (k.strs o) a;simp only[Prod.mk.injEq] at f;have:=am o t' e (by rw[<-f.1];exact b);rw[f.2];omega
  ·obtain⟨t0,a0,ac,ad,G⟩:=k.asks o t a;obtain⟨ab,aA,aB,aC⟩:=ag o t0 a0;rw[if_pos ab] at ad;refine⟨ac ab,τ, ?_⟩;rcases G with G | G<;>rw[G]<;>omega
  ·rw[U] at a;have:=ak x l a;omega
theorem qV.order (h:qV n s):qV n s.order:=(kr s).ok h (qR.order h.ow λa d=>(h.num.pkok a d).2.2)
theorem qV.choose (h:qV n s) (x:Int):qV n (s.choose x):=(vu s x).ok h (h.ow.choose x)
theorem qV.rewrite (h:qV n s) (x:Int):qV n (s.rewrite x):=(yA s x).ok h (h.ow.rewrite x)
theorem IG (d sq:Int):d-32768<=KH d sq/\KH d sq<=d+32767:=by
 unfold KH ahd;omega
theorem WS {t:zu} {sq:Int} {n:Nat} (d:0<=sq/\sq<=65535) (h:t.any=true->65536<=t.great/\t.great<=65536* (n+2)):32768<=yV t sq/\yV t sq<=65536* ((n+1:Nat)+2)/\(t.any=false->65536<=yV t sq):=by
 unfold yV;cases ha:t.any with
 | true=>
  have:=h ha;have:=IG t.great sq;simp only[if_true];refine⟨τ,τ,λe=>(by cases e)⟩
 | false=>
  simp only[Bool.false_eq_true,if_false];refine⟨τ,τ,λ_=>by omega⟩
theorem Vu (id:Int): ∀(L:List Int) (b:Bk),(Ji b L id).length<=b.length+L.length
 | [],b=>by simp[Ji]
 | x::L,b=>by
  have h:=Vu id L (vT b (x,id)).1;have d:(vT b (x,id)).1.length<=b.length+1:=by
   unfold vT
   repeat' split
   all_goals first | exact Qz _ _ _ | exact Nat.le_succ _
  unfold Ji at h ⊢;rw[List.foldl_cons,List.length_cons];omega
theorem qV.accept (h:qV n s) (o:Og) (p:Pk) (J:uf p/\uj p/\jJ p=true/\0<=p.sq/\p.sq<=65535):qV (n+1) (s.accept o p):=by
 have I:=qR.accept h.ow h.tb.act o p;unfold RmS.accept at I ⊢;cases ht:qh s.strs o with
 | none=>exact h.up
 | some t=>
  rw[ht] at I;simp only at I ⊢;obtain⟨U,ag,ah,ai,aj,ak,al,am,H,N,Y,aa,ab,ad,ac,ae,af⟩:=h.num;refine⟨I,h.tb.loc rfl (λx=>rfl) (λo2=> ?_),⟨U,by simp only;omega,by simp only;omega,by simp only;omega, ?_,by simp only;omega, ?_,by simp only;omega,λo2 t2 a b=> ?_,λo2 t2 a=> ?_,Y,aa,λa d=> ?_,by simp only;omega,λx l a=> ?_, ?_,by simp only;omega⟩⟩
  ·simp only;rw[qF];split
   ·rename_i e;rw[e,ht];rfl
   ·rfl
  ·simp only[List.length_append,List.length_cons,List.length_nil];omega
  ·simp only[List.length_append,List.length_cons,List.length_nil];omega
  ·simp only at a;rw[qF] at a;split at a
   ·injection a with e
    subst e;have O:=WS (n:=n) J.2.2.2 (H o t ht);unfold Ye;simp only;split
    ·rename_i G;rcases G with G | G
     ·have:=O.2.2 G;omega
     ·cases d:t.any with
      | true=>have:=H o t ht d;omega
      | false=>have:=O.2.2 d;omega
    ·rename_i G;cases d:t.any with
     | true=>have:=H o t ht d;omega
     | false=>exact absurd (Or.inl d) G
   ·have:=H o2 t2 a b;omega
  ·simp only at a;rw[qF] at a;split at a
   ·injection a with e
    subst e;have:=N o t ht;unfold Ye;simp only;omega
   ·have:=N o2 t2 a;omega
  ·rcases List.mem_append.1 d with d | d
   ·exact ab a d
   ·rw[List.mem_singleton] at d;subst d;exact⟨J.1,J.2.1,J.2.2.1⟩
  ·have:=ac x l a;omega
  ·have an:(prR (j8 o.1) s.tab.u).length<=6:=by unfold prR;exact Nat.le_trans (List.length_filter_le _ _) ζ
   have:=Vu s.pks.length (prR (j8 o.1) s.tab.u) s.book;simp only;split
   ·omega
   ·rw[vQ];omega
theorem qV.read (h:qV n s):qV (n+1) s.read:=by
 have d:=qR.read h.ow h.tb.act;unfold RmS.read at d ⊢;cases hq:s.queue with
 | nil=>exact h.up
 | cons b q=>
  rw[hq] at d;simp only at d ⊢;obtain⟨am,av,aw,ax,ay,az,aA,aB,aC,an,J,N,ao,ap,aq,ar,au⟩:=h.num;have aD:=J b (by rw[hq];exact List.mem_cons_self);have O:qV n {s with queue:=q}:=⟨h.ow.same rfl rfl rfl rfl,h.tb.loc rfl (λ_=>rfl) (λ_=>rfl),⟨am,av,aw,ax,ay,az,aA,aB,aC,an,λc H=>J c (by rw[hq];exact List.mem_cons_of_mem _ H),by rw[hq] at N;simp only[List.length_cons] at N ⊢;omega,ao,ap,aq,ar,au⟩⟩;have G: ∀c:CnR,c.acc=s.cnt.acc->c.lost=s.cnt.lost->(0<=c.malf/\c.malf<=n+1)->(0<=c.told/\c.told<=n+1)->(0<=c.strange/\c.strange<=n+1)->qV (n+1) {s with queue:=q,cnt:=c}:=by
   intro c c1 c2 c3 c4 c5;obtain⟨U,aE,aF,aG,ah,ai,aj,ak,al,Y,aa,ab,ac,ad,ae,af,ag⟩:=O.up.num;exact⟨h.ow.same rfl rfl rfl rfl,h.tb.loc rfl (λ_=>rfl) (λ_=>rfl),⟨U,c3,c4,c5,by simp only;rw[c1];exact ah,by simp only;rw[c2];exact ai,aj,ak,al,Y,aa,ab,ac,ad,ae,af,ag⟩⟩
  split
  ·rename_i H;rw[if_pos H] at d;unfold RmS.tell at d ⊢;split
   ·rename_i I;rw[if_pos I] at d;exact(ko _ _).ok (G {s.cnt with told:=s.cnt.told+1} rfl rfl (by simp only;omega) (by simp only;omega) (by simp only;omega)) d
   ·exact G {s.cnt with malf:=s.cnt.malf+1} rfl rfl (by simp only;omega) (by simp only;omega) (by simp only;omega)
  ·unfold RmS.media;split
   ·rename_i I;cases qh s.tab.o (jl b).1.sc with
    | none=>exact G {s.cnt with strange:=s.cnt.strange+1} rfl rfl (by simp only;omega) (by simp only;omega) (by simp only;omega)
    | some o=>exact O.accept o _ (Xc aD.1 I)
   ·exact G {s.cnt with malf:=s.cnt.malf+1} rfl rfl (by simp only;omega) (by simp only;omega) (by simp only;omega)
end
section
variable {s s':RmS} {n:Nat}
theorem qV.write (h:qV n s) (x:Int) (acc:Bool):qV (n+1) (s.write x acc):=by
 have G:=h.ow.write x acc;unfold RmS.write at G ⊢;cases hl:qh s.lanes x with
 | none=>exact h.up
 | some l=>
  rw[hl] at G;simp only at G ⊢;obtain⟨aE,aL,aM,aN,aO,aP,aQ,aR,aS,aF,aG,aH,aI,J,O,aJ,aK⟩:=h.num;have U: ∀c:Bool,(if c then jp s.book x (qX l acc).2.1 (qX l acc).2.2.1 else s.book).length=s.book.length:=by
   intro c;cases c
   ·rfl
   ·exact zq _ _ _ _
  have ax:=h.ow.sub x l hl;have aT:(qX l acc).1.W.length<=l.W.length+1:=by
   rcases uV l acc with ⟨_,e⟩ | ⟨o,C,ar,⟨H,e⟩ | ⟨_,_,H,e⟩⟩
   ·rw[e];simp
   ·rw[e];simp only;split
    ·simp
    ·omega
   ·rw[e];simp
  have aw:(qX l acc).1.wanted=l.wanted:=by
   rcases uV l acc with ⟨_,e⟩ | ⟨o,C,ar,⟨H,e⟩ | ⟨_,_,H,e⟩⟩<;>rw[e]
  have au:(∀y,(qh (zM s.tab x).1.u y).isSome=(qh s.tab.u y).isSome)/\(zM s.tab x).1.o=s.tab.o/\(zM s.tab x).1.s=s.tab.s/\(∀y d,qh (zM s.tab x).1.u y=some d->d.2.1=true->y≠x/\qh s.tab.u y=some d)/\(zM s.tab x).1.u.length<=n:=by
   unfold zM;rw[if_pos (subIds_iff.1 ax.1)];split
   ·rename_i I;refine⟨λy=> ?_,rfl,rfl,λy d a b=> ?_, ?_⟩
    ·simp only;rw[qF];split
     ·rename_i e;rw[e];exact I.1.symm
     ·rfl
    ·simp only at a;rw[qF] at a;split at a
     ·injection a with e
      rw[<-e] at b;cases b
     ·rename_i e;exact⟨e,a⟩
    ·simp only;rw[vJ _ I.1];exact J
   ·rename_i I;refine⟨λy=>rfl,rfl,rfl,λy d a b=>⟨λe=> ?_,a⟩,J⟩;rw[e] at a;exact I ⟨by rw[a];rfl,by rw[a];exact b⟩
  have Y: ∀(T:TS) (b:Bk),T.u.length<=n->b.length=s.book.length->JR (n+1) {s with lanes:=qx s.lanes x (qX l acc).1,tab:=T,book:=b}:=by
   intro T b aU H;obtain⟨ad,aj,ak,al,am,an,ao,ap,aq,ae,af,ag,ah,aB,aC,aD,ai⟩:=h.num.up;refine⟨ad,aj,ak,al,am,an,ao,ap,aq,ae,af,ag,ah,by simp only;omega,λy m a=> ?_,by simp only;omega,ai⟩;simp only at a;rw[qF] at a;split at a
   ·injection a with e
    subst e;have:=O x l hl;omega
   ·have:=O y m a;omega
  cases hg:(qX l acc).1.gone with
  | true=>
   rw[hg] at G;simp only[if_true] at G ⊢;obtain⟨aa,az,N,ab,aA⟩:=au;refine⟨G,⟨λy ay=>h.tb.keys y (by rw[<-aa];exact ay),λy=> ?_,λy d a b=> ?_,λy d a b=> ?_,λp m av=> ?_,λy o a=> ?_,by simp only;rw[N];exact h.tb.src⟩,Y _ _ aA (by rw[show ∀(m:Bk) a f,(vM m a f).length=m.length from λm a f=>by simp[vM],U])⟩
   ·simp only;rw[aa,h.tb.lane,qF];split
    ·rename_i e;rw[e,hl];rfl
    ·rfl
   ·obtain⟨e,ac⟩:=ab y d a b;obtain⟨m,c1,c2,c3⟩:=h.tb.act y d ac b;exact⟨m,by simp only;rw[qF,if_neg e];exact c1,c2,c3⟩
   ·simp only;rw[N];exact h.tb.pub y d (ab y d a b).2 b
   ·simp only;rw[N];exact h.tb.str p m av
   ·simp only at a ⊢;rw[az] at a;exact h.tb.org y o a
  | false=>
   rw[hg] at G;simp only[Bool.false_eq_true,if_false] at G ⊢;refine⟨G,⟨h.tb.keys,λy=> ?_,λy d a b=> ?_,h.tb.pub,h.tb.str,h.tb.org,h.tb.src⟩,Y s.tab _ J (U _)⟩
   ·simp only;rw[h.tb.lane,qF];split
    ·rename_i e;rw[e,hl];rfl
    ·rfl
   ·obtain⟨m,c1,c2,c3⟩:=h.tb.act y d a b;by_cases e:y=x
    ·subst e;rw[hl] at c1;injection c1 with e2
     subst e2;exact⟨(qX l acc).1,by simp only;rw[qF,if_pos rfl],hg,by rw[aw];exact c3⟩
    ·exact⟨m,by simp only;rw[qF,if_neg e];exact c1,c2,c3⟩
theorem qV.ret (h:qV n s) (r:List (Og×Bool)):qV n {s with ret:=r}:=by
 obtain⟨d,aa,ab,ac,ad,ae,af,ag,ah,G,H,I,J,N,O,U,Y⟩:=h.num;exact⟨h.ow.same rfl rfl rfl rfl,h.tb.loc rfl (λ_=>rfl) (λ_=>rfl),⟨d,aa,ab,ac,ad,ae,af,ag,ah,G,H,I,J,N,O,U,Y⟩⟩
theorem qV.drain (h:qV n s) (w:Og):qV (n+1) (s.drain w):=by
 unfold RmS.drain;split
 ·obtain⟨af,au,av,aw,ax,ay,az,aA,aB,ak,al,am,an,ao,ap,aq,ar⟩:=h.num;have aC:=(kF af).1;obtain⟨d,U,Y,aa,ab,aj,ac,ad,ae,G,ah,ai,H,I,J,N,O⟩:=h.num.up;exact⟨h.ow.same rfl rfl rfl rfl,h.tb.loc rfl (λ_=>rfl) (λ_=>rfl),⟨d,U,Y,aa,ab,by simp only;omega,ac,ad,ae,G,λb ag=>by simp at ag,by simp only[List.length_nil];omega,H,I,J,N,O⟩⟩
 ·split
  ·exact(za vn _ s).ok h.up (qR.drainOs _ h.ow)
  ·exact(vt s w).ok h.up (h.ow.drainL w)
theorem qV.endW (h:qV n s) (w:Og):qV (n+1) (s.endW w):=by
 unfold RmS.endW;split
 ·exact(h.drain w).ret _
 ·exact h.drain w
theorem qV.stepW (h:qV n s) (w:Og) (acc:Bool):qV (n+1) (s.stepW w acc):=by
 unfold RmS.stepW;split
 ·exact h.endW w
 ·split
  ·exact h.read
  ·split
   ·exact h.order.up
   ·split
    ·exact(h.choose w.2).up
    ·split
     ·exact(h.rewrite w.2).up
     ·exact h.write w.2 acc
theorem qV.pick (h:qV n s) (w:Og) (acc:Bool):qV (n+1) (s.pick w acc).1:=by
 unfold RmS.pick;split
 ·exact h.stepW w acc
 ·exact h.up
theorem qV.publish (h:qV n s) (p s0 s1 s2:Int) (I: ∀v∈[s0,s1,s2],0<=v/\v<=4294967295):qV (n+1) (s.publish p s0 s1 s2).1:=by
 unfold RmS.publish;split
 ·exact h.up
 ·split
  ·rename_i av;simp only;have G:=av;unfold vA at G;split at G
   ·rename_i N;split at G
    ·simp at G
    ·rename_i ap;split at G
     ·simp at G
     ·rename_i O;split at G
      ·simp at G
      ·rename_i ar;have e:(vA s.tab p s0 s1 s2).1={s.tab with o:=qx (qx (qx s.tab.o s0 (p,0)) s1 (p,1)) s2 (p,2),s:=qx (qx (qx s.tab.s (p,0) s0) (p,1) s1) (p,2) s2}:=by
        unfold vA;rw[if_pos N,if_neg ap,if_neg O,if_neg ar];rfl
       rw[e];have au: ∀k,qh s.strs (p,k)=none:=λk=>by
        cases H:qh s.strs (p,k) with
        | none=>rfl
        | some t=>
         have:=h.tb.str p k (XD (h.ow.org _ t H));rw[H] at this;exact absurd this.symm O
       have key: ∀(o:Og) {α:Type} {m:List (Og×α)} {a b c:α},(qh (qx (qx (qx m (p,0) a) (p,1) b) (p,2) c) o).isSome=((decide (o=(p,2))||(decide (o=(p,1))||decide (o=(p,0))))||(qh m o).isSome):=by
        intro o α m a b c;rw[qF,qF,qF];by_cases c2:o=(p,2)
        ·rw[if_pos c2,decide_eq_true c2];rfl
        ·rw[if_neg c2,decide_eq_false c2];by_cases c1:o=(p,1)
         ·rw[if_pos c1,decide_eq_true c1];rfl
         ·rw[if_neg c1,decide_eq_false c1];by_cases c0:o=(p,0)
          ·rw[if_pos c0,decide_eq_true c0];rfl
          ·rw[if_neg c0,decide_eq_false c0];rfl
       have J: ∀o t,qh (qx (qx (qx s.strs (p,0) (uc s.cfg)) (p,1) (uc s.cfg)) (p,2) (uc s.cfg)) o=some t->t=uc s.cfg∨qh s.strs o=some t:=by
        intro o t a;rw[qF] at a;split at a
        ·injection a with e;exact Or.inl e.symm
        ·rw[qF] at a;split at a
         ·injection a with e;exact Or.inl e.symm
         ·rw[qF] at a;split at a
          ·injection a with e;exact Or.inl e.symm
          ·exact Or.inr a
       obtain⟨U,ah,ai,aj,ak,al,am,an,ao,Y,aa,ab,ac,ad,ae,af,ag⟩:=h.num.up;refine⟨(qR.publish h.ow p N au).same rfl rfl rfl rfl,⟨h.tb.keys,h.tb.lane,h.tb.act,λx aw a b=> ?_,λp2 k H=> ?_,λx o a=> ?_,λo v a=> ?_⟩,⟨U,ah,ai,aj,ak,al,am,an,λo t a b=> ?_,λo t a=> ?_,aa,ab,ac,ad,ae,af,ag⟩⟩
       ·simp only;rw[key,h.tb.pub x aw a b,Bool.or_true]
       ·simp only;rw[key,key];by_cases e2:p2=p
        ·subst e2;have aq:k=0∨k=1∨k=2:=by
          have:=of_decide_eq_true H;omega
         rcases aq with rfl | rfl | rfl<;>simp
        ·have d: ∀j i:Int,decide ((p2,j)=(p,i))=false:=λj i=>decide_eq_false λc=>e2 (congrArg Prod.fst c)
         rw[d,d,d,d,d,d,h.tb.str p2 k H]
       ·simp only at a ⊢;rw[key];rw[qF] at a;split at a
        ·injection a with d;rw[<-d];simp
        ·rw[qF] at a;split at a
         ·injection a with d;rw[<-d];simp
         ·rw[qF] at a;split at a
          ·injection a with d;rw[<-d];simp
          ·rw[h.tb.org x o a,Bool.or_true]
       ·simp only at a;rw[qF] at a;split at a
        ·injection a with d;rw[<-d];exact I _ η
        ·rw[qF] at a;split at a
         ·injection a with d;rw[<-d];exact I _ η
         ·rw[qF] at a;split at a
          ·injection a with d;rw[<-d];exact I _ η
          ·exact h.tb.src o v a
       ·rcases J o t a with c | c
        ·rw[c] at b;cases b
        ·exact ao o t c b
       ·rcases J o t a with c | c
        ·rw[c];unfold uc;simp only;omega
        ·exact Y o t c
   ·simp at G
  ·exact h.up
theorem qV.join (h:qV n s) (x H sq st:Int):qV (n+1) (s.join x H sq st).1:=by
 unfold RmS.join;split
 ·exact h.up
 ·split
  ·rename_i aq;simp only;have G:=aq;unfold yI at G;split at G
   ·rename_i U;split at G
    ·simp at G
    ·rename_i N;have e:(yI s.tab x H).1={s.tab with u:=qx s.tab.u x (H,false,0)}:=by
      unfold yI;rw[if_pos U,if_neg N]
     rw[e];have O:qh s.tab.u x=none:=by
      cases O:qh s.tab.u x with
      | none=>rfl
      | some v=>rw[O] at N;exact absurd rfl N
     have J:qh s.lanes x=none:=by
      have:=h.tb.lane x;rw[O] at this;cases J:qh s.lanes x with
      | none=>rfl
      | some l=>rw[J] at this;cases this
     have au:=(kF h.num.cfg).1;have av:=h.num.few;obtain⟨aa,ai,aj,ak,al,am,an,ao,ap,ab,ac,ad,ae,ar,af,ag,ah⟩:=h.num.up;refine⟨(qR.join h.ow (subIds_iff.2 U) J (l:=Vd s.cfg.room.toNat s.cfg.most H sq st) (by show 1<=s.cfg.room.toNat;omega) rfl).same rfl rfl rfl rfl,⟨λy I=> ?_,λy=> ?_,λy Y a b=> ?_,λy Y a b=> ?_,h.tb.str,h.tb.org,h.tb.src⟩,⟨aa,ai,aj,ak,al,am,an,ao,ap,ab,ac,ad,ae, ?_,λy l a=> ?_,ag,ah⟩⟩
     ·simp only at I;rw[qF] at I;split at I
      ·rename_i d;rw[d];exact U
      ·exact h.tb.keys y I
     ·simp only;rw[qF,qF];split
      ·rfl
      ·exact h.tb.lane y
     ·simp only at a ⊢;rw[qF] at a;split at a
      ·injection a with d
       rw[<-d] at b;cases b
      ·rename_i d;rw[qF,if_neg d];exact h.tb.act y Y a b
     ·simp only at a;rw[qF] at a;split at a
      ·injection a with d
       rw[<-d] at b;cases b
      ·exact h.tb.pub y Y a b
     ·have:=Qz x (H,false,(0:Int)) s.tab.u;simp only;omega
     ·simp only at a;rw[qF] at a;split at a
      ·injection a with d
       subst d;simp[Vd]
      ·exact af y l a
   ·simp at G
  ·exact h.up
theorem Ee (l:LnS) (k:Int):(jO l k).1.W=l.W:=by
 unfold jO
 repeat' split
 all_goals rfl
theorem qV.wantL (h:qV n s) {x:Int} {l:LnS} (d:qh s.lanes x=some l) (k:Int):qV n {s with lanes:=qx s.lanes x (jO l k).1}:=by
 obtain⟨am,an,aj,ak⟩:=Xv l k;obtain⟨H,ab,ac,ad,ae,af,ag,ah,ai,I,J,N,O,U,G,Y,aa⟩:=h.num;refine⟨qR.wantL h.ow d k,⟨h.tb.keys,λy=> ?_,λy al a b=> ?_,h.tb.pub,h.tb.str,h.tb.org,h.tb.src⟩,⟨H,ab,ac,ad,ae,af,ag,ah,ai,I,J,N,O,U,λy m a=> ?_,Y,aa⟩⟩
 ·simp only;rw[h.tb.lane,qF];split
  ·rename_i e;rw[e,d];rfl
  ·rfl
 ·obtain⟨m,c1,c2,c3⟩:=h.tb.act y al a b;simp only;rw[qF];by_cases e:y=x
  ·subst e;rw[d] at c1;injection c1 with e2
   subst e2;exact⟨_,by rw[if_pos rfl],by rw[aj];exact c2,ak c3⟩
  ·exact⟨m,by rw[if_neg e];exact c1,c2,c3⟩
 ·simp only at a;rw[qF] at a;split at a
  ·injection a with e2
   subst e2;rw[Ee];exact G x l d
  ·exact G y m a
theorem qV.want (h:qV n s) (x k:Int):qV (n+1) (s.want x k).1:=by
 unfold RmS.want;split
 ·exact h.up
 ·split
  ·exact h.up
  ·split
   ·exact h.up
   ·cases hl:qh s.lanes x with
    | none=>exact h.up
    | some l=>exact(h.wantL hl k).up
theorem qV.subscribe (h:qV n s) (x p k:Int):qV (n+1) (s.subscribe x p k).1:=by
 unfold RmS.subscribe;split
 ·exact h.up
 ·split
  ·exact h.up
  ·rename_i au;split
   ·exact h.up
   ·rename_i I;split
    ·rename_i aw;cases hl:qh s.lanes x with
     | none=>exact h.up
     | some l=>
      simp only;have G:=aw;unfold vL at G;split at G
      ·rename_i Y;split at G
       ·rename_i J;split at G
        ·simp at G
        ·rename_i av;have e:(vL s.tab x p).1={s.tab with u:=qx s.tab.u x (((qh s.tab.u x).getD sb0).1,true,p)}:=by
          unfold vL;rw[if_pos Y,if_pos J,if_neg av]
         rw[e];have U:l.gone=false:=by
          unfold JV at I;rw[hl] at I
          simpa using I
         have O:=h.wantL hl k;have aa:(jO l k).1.wanted=true/\(jO l k).1.gone=false:=by
          unfold jO;rw[if_neg au,if_neg (by rw[U];decide)];exact⟨rfl,U⟩
         obtain⟨ab,ak,al,am,an,ao,ap,aq,ar,ac,ad,ae,af,ag,ah,ai,aj⟩:=O.num.up;refine⟨O.ow.same rfl rfl rfl rfl,⟨λy H=> ?_,λy=> ?_,λy N a b=> ?_,λy N a b=> ?_,h.tb.str,h.tb.org,h.tb.src⟩,⟨ab,ak,al,am,an,ao,ap,aq,ar,ac,ad,ae,af, ?_,ah,ai,aj⟩⟩
         ·simp only at H;rw[qF] at H;split at H
          ·rename_i d;rw[d];exact Y.1
          ·exact h.tb.keys y H
         ·simp only;rw[qF,qF];split
          ·rfl
          ·exact h.tb.lane y
         ·simp only at a ⊢;rw[qF] at a ⊢;split at a
          ·rename_i d;rw[if_pos d];exact⟨_,rfl,aa.2,aa.1⟩
          ·rename_i d;rw[if_neg d];exact h.tb.act y N a b
         ·simp only at a ⊢;rw[qF] at a;split at a
          ·injection a with d
           rw[<-d];exact J.2
          ·exact h.tb.pub y N a b
         ·simp only;rw[vJ _ J.1];exact ag
       ·simp at G
      ·simp at G
    ·exact h.up
theorem ZN {K V:Type} [DecidableEq K] (k:K): ∀(m:List (K×V)),(yK m k).length<=m.length
 | []=>by simp[yK]
 | (a,b)::l=>by
  unfold yK;split
  ·simp
  ·have:=ZN k l;simp only[List.length_cons];omega
theorem qV.leave (h:qV n s) (H:(s.tab.u.map Prod.fst).Nodup) (x:Int):qV (n+1) (s.leave x).1:=by
 unfold RmS.leave;split
 ·exact h.up
 ·split
  ·rename_i ao;simp only;have G:=ao;unfold zW at G;split at G
   ·rename_i an;split at G
    ·rename_i am;have e:(zW s.tab x).1={s.tab with u:=yK s.tab.u x}:=by
      unfold zW;rw[if_pos an,if_pos am]
     rw[e];have aq:=h.num.few;obtain⟨N,ae,af,ag,ah,ai,aj,ak,al,O,U,Y,aa,ap,ab,ac,ad⟩:=h.num.up;refine⟨(qR.leave h.ow x).same rfl rfl rfl rfl,⟨λy d=> ?_,λy=> ?_,λy I a b=> ?_,λy I a b=> ?_,h.tb.str,h.tb.org,h.tb.src⟩,⟨N,ae,af,ag,ah,ai,aj,ak,al,O,U,Y,aa, ?_,λy l a=> ?_, ?_,ad⟩⟩
     ·simp only at d;rw[gD H] at d;split at d
      ·cases d
      ·exact h.tb.keys y d
     ·simp only;rw[gD H,uR];split
      ·rfl
      ·exact h.tb.lane y
     ·simp only at a ⊢;rw[gD H] at a;split at a
      ·cases a
      ·rename_i J;rw[uR,if_neg J];exact h.tb.act y I a b
     ·simp only at a;rw[gD H] at a;split at a
      ·cases a
      ·exact h.tb.pub y I a b
     ·have:=ZN x s.tab.u;simp only;omega
     ·simp only at a;rw[uR] at a;split at a
      ·cases a
      ·exact ab y l a
     ·simp only;rw[show ∀(m:Bk) a f,(vM m a f).length=m.length from λm a f=>by simp[vM]];exact ac
    ·simp at G
   ·simp at G
  ·exact h.up
theorem qV.arrive (h:qV n s) {b:List Int} (ah:Byt b) (ai:b.length<=400):qV (n+1) (s.arrive b).1:=by
 have d:=(kF h.num.cfg).1;have am:=h.num.fit;have al:=h.num.lost;obtain⟨G,aa,ab,ac,ad,aj,ae,af,ag,H,I,ak,J,N,O,U,Y⟩:=h.num.up;unfold RmS.arrive;split
 ·exact h.up
 ·split
  ·refine⟨h.ow.same rfl rfl rfl rfl,h.tb.loc rfl (λ_=>rfl) (λ_=>rfl),⟨G,aa,ab,ac,ad,aj,ae,af,ag,H,λc d=> ?_, ?_,J,N,O,U,Y⟩⟩
   ·rcases List.mem_append.1 d with d | d
    ·exact I c d
    ·rw[List.mem_singleton] at d;rw[d];exact⟨ah,ai⟩
   ·simp only[List.length_append,List.length_cons,List.length_nil];omega
  ·refine⟨h.ow.same rfl rfl rfl rfl,h.tb.loc rfl (λ_=>rfl) (λ_=>rfl),⟨G,aa,ab,ac,ad,by simp only;omega,ae,af,ag,H,λc d=> ?_, ?_,J,N,O,U,Y⟩⟩
   ·rcases List.mem_append.1 d with d | d
    ·exact I c (List.mem_of_mem_tail d)
    ·rw[List.mem_singleton] at d;rw[d];exact⟨ah,ai⟩
   ·simp only[List.length_append,List.length_cons,List.length_nil,List.length_tail];omega
theorem qV.shut (h:qV n s):qV (n+1) s.shut.1:=by
 unfold RmS.shut;split
 ·exact h.up
 ·obtain⟨d,aa,ab,ac,ad,ae,af,ag,ah,G,H,I,J,N,O,U,Y⟩:=h.num.up;exact⟨h.ow.same rfl rfl rfl rfl,h.tb.loc rfl (λ_=>rfl) (λ_=>rfl),⟨d,aa,ab,ac,ad,ae,af,ag,ah,G,H,I,J,N,O,U,Y⟩⟩
theorem uQ {c:CfR} (d:xY c=true):qV 0 (ud c):=by
 have h:=(kF d).1
 refine⟨⟨λo t a=>(by cases a),λo t a=>(by cases a),λo t H t' a=>(by cases a),λo t a=>(by cases a),λx l a=>(by cases a),λx l a=>(by cases a),λx i a=>(by cases a),λx i v a=>(by cases a)⟩,
  ⟨λx a=>(by cases a),λx=>rfl,λx G a=>(by cases a),λx G a=>(by cases a),λp k _=>rfl,λx o a=>(by cases a),λo v a=>(by cases a)⟩,
  ⟨d,by simp[ud],by simp[ud],by simp[ud],rfl,by simp[ud],by simp[ud],by simp[ud],λo t a=>(by cases a),λo t a=>(by cases a),λb a=>(by cases a),by simp only[ud,List.length_nil];omega,λa b=>(by cases b),by simp[ud],λx l a=>(by cases a),by simp[ud],by simp[ud]⟩⟩
end
theorem yr {α:Type} [DecidableEq α]: ∀{l m:List α},l.Nodup->(∀x∈l,x∈m)->l.length<=m.length
 | [],m,_,_=>Nat.zero_le _
 | a::l,m,h,k=>by
  rw[List.nodup_cons] at h;have G: ∀x∈l,x∈m.erase a:=λx d=>(List.mem_erase_of_ne (λe=>h.1 (by rw[<-e];exact d))).2 (k x (List.mem_cons_of_mem _ d))
  have H:=yr h.2 G;have I:=List.length_erase_of_mem (k a List.mem_cons_self);have J:0<m.length:=List.length_pos_of_mem (k a List.mem_cons_self);rw[List.length_cons];omega
theorem Xz {m:Bk} {sub i:Int}:i∈xS sub m↔((sub,i),(0:Int))∈m:=by
 unfold xS;rw[List.mem_filterMap];constructor
 ·rintro⟨⟨⟨a,b⟩,v⟩,H,d⟩;simp only at d;split at d
  ·rename_i G;injection d with e
   rw[<-G.1,<-G.2,<-e];exact H
  ·cases d
 ·intro h;exact⟨_,h,η⟩
theorem gZ: ∀{m:Bk} (sub:Int),(m.map Prod.fst).Nodup->(xS sub m).Nodup
 | [],_,_=>List.nodup_nil
 | ((a,b),v)::m,sub,h=>by
  rw[List.map_cons,List.nodup_cons] at h;have G:=gZ sub h.2;unfold xS at G ⊢;rw[List.filterMap_cons];split
  ·exact G
  ·rename_i x d;simp only at d;split at d
   ·rename_i H;injection d with e
    subst e;rw[List.nodup_cons];refine⟨λc=>h.1 ?_,G⟩;have:=(Xz (m:=m) (sub:=sub) (i:=b)).1 c;rw[<-H.1] at this;exact List.mem_map.2 ⟨_,this,rfl⟩
   ·cases d
theorem Kj {m:Bk} (sub:Int) (h:(m.map Prod.fst).Nodup):(jz m sub).Nodup:=(List.mergeSort_perm _ _).nodup_iff.2 (gZ sub h)
theorem Qu {m:Bk} (d:(m.map Prod.fst).Nodup) (sub i:Int):i∈jz m sub↔qh m (sub,i)=some 0:=by
 unfold jz;rw[WG,Xz,DM d]
section
variable {s s':RmS} {n:Nat}
def RmS.heldL (s:RmS):List Int:=s.origins.flatMap λo=>match qh s.strs o with
 | some t=>thJ t.buf.holds
 | none=>[]
theorem Ch (s:RmS):s.heldL.length=s.held:=by
 unfold RmS.heldL RmS.held;rw[List.length_flatMap]
 congr 1
 refine List.map_congr_left λo _=> ?_
 cases qh s.strs o with
 | none=>rfl
 | some t=>simp[thJ]
theorem PG (h:OwO s) (i:Int):i∈s.heldL↔xM s.strs i:=by
 unfold RmS.heldL;rw[List.mem_flatMap];constructor
 ·rintro⟨o,G,d⟩;cases ht:qh s.strs o with
  | none=>rw[ht] at d;simp at d
  | some t=>rw[ht] at d;exact⟨o,t,ht,d⟩
 ·rintro⟨o,t,G,d⟩;refine⟨o, ?_,by rw[G];exact d⟩;unfold RmS.origins;rw[List.mem_filter];exact⟨h.org o t G,by rw[G];rfl⟩
def RmS.inL (s:RmS) (x:Int):Nat:=match qh s.lanes x with
 | some l=>l.A.length+l.B.length+l.C.length
 | none=>0
theorem ZV (h:OwO s) (G:(s.book.map Prod.fst).Nodup) (x:Int):
  s.inL x<=(jz s.book x).length/\(jz s.book x).length<=s.inL x+s.held/\((∀l,qh s.lanes x=some l->l.gone=true)->(jz s.book x).length=0):=by
 refine⟨?_, ?_,λI=> ?_⟩
 ·unfold RmS.inL;cases hl:qh s.lanes x with
  | none=>exact Nat.zero_le _
  | some l=>
   simp only;have:=yr (m:=jz s.book x) (h.sub x l hl).2.2 (λi hi=>(Qu G x i).2 (h.owd x l hl i hi).1);unfold xI at this;simp only[List.length_append,List.length_map] at this;omega
 ·have key: ∀i∈jz s.book x,i∈(match qh s.lanes x with | some l=>xI l | none=>[])++s.heldL:=λi hi=>by
   obtain⟨l,H,_,_,d⟩:=h.src x i ((Qu G x i).1 hi);rw[H];rcases d with d | d | d
   ·exact List.mem_append_left _ d
   ·exact List.mem_append_right _ ((PG h i).2 d)
   ·exact d.elim
  have:=yr (Kj x G) key;rw[List.length_append,Ch] at this;unfold RmS.inL;cases hl:qh s.lanes x with
  | none=>rw[hl] at this;simpa using this
  | some l=>
   rw[hl] at this;unfold xI at this;simp only[List.length_append,List.length_map] at this;exact this
 ·cases hp:jz s.book x with
  | nil=>rfl
  | cons i L=>
   obtain⟨l,H,d,_⟩:=h.src x i ((Qu G x i).1 (by rw[hp];exact List.mem_cons_self));rw[I l H] at d;cases d
structure wN (s:RmS):Prop where
 open_:s.closed=false->s.ret=[]
 vals: ∀w v,qh s.ret w=some v->v=true/\w∈s.workers
 rd:(qh s.ret (0,0)).isSome=true->s.queue=[]
 jt:(qh s.ret (1,0)).isSome=true->(qh s.ret (0,0)).isSome=true/\ ∀o t,qh s.strs o=some t->t.buf.holds=[]
 ch: ∀x,(qh s.ret (2,x)).isSome=true->(qh s.ret (1,0)).isSome=true/\ ∀l,qh s.lanes x=some l->l.A=[]
 rw: ∀x,(qh s.ret (3,x)).isSome=true->(qh s.ret (2,x)).isSome=true/\ ∀l,qh s.lanes x=some l->l.B=[]
 wr: ∀x,(qh s.ret (4,x)).isSome=true->(qh s.ret (3,x)).isSome=true/\ ∀l,qh s.lanes x=some l->l.C=[]
theorem wN.nil (h:s.ret=[]):wN s:=by
 have e: ∀w,qh s.ret w=none:=λw=>by rw[h];rfl
 exact⟨λ_=>h,λw v a=>(by rw[e] at a;cases a),λa=>(by rw[e] at a;cases a),λa=>(by rw[e] at a;cases a),λx a=>(by rw[e] at a;cases a),λx a=>(by rw[e] at a;cases a),λx a=>(by rw[e] at a;cases a)⟩
theorem Us (h:s.closed=false) (d:s.ret=[]) (w:Og) (acc:Bool):(s.stepW w acc).ret=[]:=by
 unfold RmS.stepW;rw[if_neg (by rw[h];decide)];split
 ·unfold RmS.read;cases s.queue with
  | nil=>exact d
  | cons b q=>
   simp only;split
   ·unfold RmS.tell;split
    ·exact(ko _ _).ret.trans d
    ·exact d
   ·unfold RmS.media;split
    ·cases qh s.tab.o (jl b).1.sc with
     | none=>exact d
     | some o=>
      unfold RmS.accept;simp only;cases qh s.strs o<;>exact d
    ·exact d
 ·split
  ·exact(kr s).ret.trans d
  ·split
   ·exact(vu s _).ret.trans d
   ·split
    ·exact(yA s _).ret.trans d
    ·unfold RmS.write;cases qh s.lanes w.2<;>exact d
theorem mem_workers {s:RmS} {w:Og}:w∈s.workers↔w=(0,0)∨w=(1,0)∨((w.1=2∨w.1=3∨w.1=4)/\w.2∈subIds/\(qh s.lanes w.2).isSome=true):=by
 unfold RmS.workers yp RmS.there;obtain⟨a,b⟩:=w;simp only[List.mem_cons,List.mem_flatMap,List.mem_filter,decide_eq_true_eq,List.not_mem_nil,or_false,Prod.mk.injEq];constructor
 ·rintro(h | h | ⟨x,⟨d,H,G⟩,I⟩)
  ·exact Or.inl h
  ·exact Or.inr (Or.inl h)
  ·rcases I with ⟨rfl,rfl⟩ | ⟨rfl,rfl⟩ | ⟨rfl,rfl⟩
   ·exact Or.inr (Or.inr ⟨Or.inl rfl,d,G⟩)
   ·exact Or.inr (Or.inr ⟨Or.inr (Or.inl rfl),d,G⟩)
   ·exact Or.inr (Or.inr ⟨Or.inr (Or.inr rfl),d,G⟩)
 ·rintro(h | h | ⟨d,H,G⟩)
  ·exact Or.inl h
  ·exact Or.inr (Or.inl h)
  ·refine Or.inr (Or.inr ⟨b,⟨H,H,G⟩, ?_⟩);rcases d with rfl | rfl | rfl
   ·exact Or.inl ⟨rfl,rfl⟩
   ·exact Or.inr (Or.inl ⟨rfl,rfl⟩)
   ·exact Or.inr (Or.inr ⟨rfl,rfl⟩)
theorem gV (h: ∀x,(qh s'.lanes x).isSome=(qh s.lanes x).isSome):s'.workers=s.workers:=by
 unfold RmS.workers RmS.there;rw[List.filter_congr (λx _=>h x)]
theorem Qc (L:List Int): ∀s:RmS,(L.foldl RmS.drain1 s).lanes=s.lanes/\(L.foldl RmS.drain1 s).strs=s.strs:=by
 induction L with
 | nil=>intro s;exact⟨rfl,rfl⟩
 | cons x L ih=>intro s;rw[List.foldl_cons,(ih _).1,(ih _).2];exact⟨rfl,rfl⟩
theorem Ko (s:RmS) (o:Og):(s.drainO o).lanes=s.lanes/\ ∀d t,qh (s.drainO o).strs d=some t->(d=o/\t.buf.holds=[])∨(d≠o/\qh s.strs d=some t):=by
 unfold RmS.drainO;cases ht:qh s.strs o with
 | none=>exact⟨rfl,λd t h=>Or.inr ⟨(λe=>by rw[e,ht] at h;cases h),h⟩⟩
 | some u=>
  simp only;rw[(Qc _ _).1,(Qc _ _).2];refine⟨rfl,λd t h=> ?_⟩;simp only at h;rw[qF] at h;split at h
  ·rename_i e;injection h with e2
   subst e2;exact Or.inl ⟨e,XG _ _ (Nat.le_refl _)⟩
  ·rename_i e;exact Or.inr ⟨e,h⟩
theorem Qb: ∀(L:List Og) (s:RmS),(L.foldl RmS.drainO s).lanes=s.lanes/\ ∀o t,qh (L.foldl RmS.drainO s).strs o=some t->t.buf.holds=[]∨(o∉L/\qh s.strs o=some t)
 | [],s=>⟨rfl,λo t h=>Or.inr ⟨η,h⟩⟩
 | o1::L,s=>by
  rw[List.foldl_cons];obtain⟨G,H⟩:=Qb L (s.drainO o1);obtain⟨I,J⟩:=Ko s o1;refine⟨G.trans I,λo t h=> ?_⟩;rcases H o t h with a | ⟨a,b⟩
  ·exact Or.inl a
  ·rcases J o t b with ⟨_,c⟩ | ⟨c,d⟩
   ·exact Or.inl c
   ·exact Or.inr ⟨λe=>(List.mem_cons.1 e).elim c a,d⟩
theorem UM {w:Og} (h:s.may w=true) (d:s.closed=true):w∈s.workers/\(qh s.ret w).getD false=false:=by
 unfold RmS.may at h;rw[Bool.and_eq_true,if_pos d] at h;exact⟨of_decide_eq_true h.1,by simpa using h.2⟩
theorem UU (O:OwO s) {w:Og} (Y:w∈s.workers):
  (w=(0,0)->(s.drain w).queue=[])/\(s.queue=[]->(s.drain w).queue=[])/\
  (w=(1,0)-> ∀o t,qh (s.drain w).strs o=some t->t.buf.holds=[])/\((∀o t,qh s.strs o=some t->t.buf.holds=[])-> ∀o t,qh (s.drain w).strs o=some t->t.buf.holds=[])/\
  (∀x l',qh (s.drain w).lanes x=some l'-> ∃l,qh s.lanes x=some l/\(l.A=[]∨w=(2,x)->l'.A=[])/\(l.B=[]∨w=(3,x)->l'.B=[])/\(l.C=[]∨w=(4,x)->l'.C=[])):=by
 obtain⟨a,b⟩:=w;have I: ∀x l',qh s.lanes x=some l'-> ¬((a=2∨a=3∨a=4)/\b=x)-> ∃l,qh s.lanes x=some l/\(l.A=[]∨(a,b)=(2,x)->l'.A=[])/\(l.B=[]∨(a,b)=(3,x)->l'.B=[])/\(l.C=[]∨(a,b)=(4,x)->l'.C=[]):=by
  intro x l' G H;refine⟨l',G,λe=>e.elim id λe=> ?_,λe=>e.elim id λe=> ?_,λe=>e.elim id λe=> ?_⟩
  ·injection e with e1 e2;exact absurd ⟨Or.inl e1,e2⟩ H
  ·injection e with e1 e2;exact absurd ⟨Or.inr (Or.inl e1),e2⟩ H
  ·injection e with e1 e2;exact absurd ⟨Or.inr (Or.inr e1),e2⟩ H
 unfold RmS.drain;by_cases h0:a=0
 ·rw[if_pos h0];refine⟨λ_=>rfl,λ_=>rfl,λe=> ?_,λe=>e,λx l' G=>I x l' G (λc=>by omega)⟩;injection e with e1 e2
  omega
 ·rw[if_neg h0];by_cases h1:a=1
  ·rw[if_pos h1];obtain⟨aa,ab⟩:=Qb s.origins s;have J:(s.origins.foldl RmS.drainO s).queue=s.queue:=(za vn _ s).queue;refine⟨λe=> ?_,λe=>J.trans e,λ_ o t N=> ?_,λ_ o t N=> ?_,λx l' G=>I x l' (by rw[<-aa];exact G) (λc=>by omega)⟩
   ·injection e with e1 e2
    omega
   all_goals
    rcases ab o t N with c | ⟨c,d⟩
    ·exact c
    ·exact absurd (by unfold RmS.origins;rw[List.mem_filter];exact⟨O.org o t d,by rw[d];rfl⟩) c
  ·rw[if_neg h1];have J:(s.drainL (a,b)).queue=s.queue:=(vt s (a,b)).queue;have U:(s.drainL (a,b)).strs=s.strs:=by
    unfold RmS.drainL;cases qh s.lanes (a,b).2<;>rfl
   refine⟨λe=> ?_,λe=>J.trans e,λe=> ?_,λe=>by rw[U];exact e,λx l' G=> ?_⟩
   ·injection e with e1 e2
    omega
   ·injection e with e1 e2
    omega
   ·have ac:a=2∨a=3∨a=4:=by
     rcases mem_workers.1 Y with e | e | e
     ·injection e with e1 e2;omega
     ·injection e with e1 e2;omega
     ·exact e.1
    unfold RmS.drainL at G;cases hb:qh s.lanes (a,b).2 with
    | none=>
     rw[hb] at G;simp only at G hb;refine I x l' G (λc=> ?_);rw[c.2,G] at hb;cases hb
    | some m=>
     rw[hb] at G;simp only at G hb;rw[qF] at G;split at G
     ·rename_i e;injection G with e2
      subst e2 e;refine⟨m,hb,λe=> ?_,λe=> ?_,λe=> ?_⟩
      ·unfold vh;simp only;split
       ·rfl
       ·rename_i H;rcases e with e | e
        ·exact e
        ·injection e with e1 e2
         rw[e1] at H;exact absurd rfl H
      ·unfold vh;simp only;split
       ·rfl
       ·rename_i H;rcases e with e | e
        ·exact e
        ·injection e with e1 e2
         rw[e1] at H;exact absurd rfl H
      ·unfold vh;simp only;split
       ·rfl
       ·rename_i H;rcases e with e | e
        ·exact e
        ·injection e with e1 e2
         rw[e1] at H;exact absurd rfl H
     ·rename_i e;exact I x l' G (λc=>e c.2.symm)
theorem uF (s:RmS) (w:Og):(∀x,(qh (s.drain w).lanes x).isSome=(qh s.lanes x).isSome)/\(s.drain w).ret=s.ret/\(s.drain w).closed=s.closed:=by
 unfold RmS.drain;split
 ·exact⟨λ_=>rfl,rfl,rfl⟩
 ·split
  ·have h:=za vn s.origins s;exact⟨λx=>yt (h.lanes x),h.ret,h.closed⟩
  ·have h:=vt s w;exact⟨λx=>yt (h.lanes x),h.ret,h.closed⟩
theorem wN.endW (h:wN s) (an:OwO s) (ab:s.closed=true) {w:Og} (am:s.may w=true):wN (s.endW w):=by
 obtain⟨ag,aq⟩:=UM am ab;obtain⟨aj,ac,ak,ad,N⟩:=UU an ag;obtain⟨ae,U,af⟩:=uF s w;have al:wN (s.drain w):=by
  refine⟨(λc=>by rw[af,ab] at c;cases c),λw' v a=> ?_,λa=>ac (h.rd (by rw[<-U];exact a)),λa=> ?_,λx a=> ?_,λx a=> ?_,λx a=> ?_⟩
  ·rw[U] at a;obtain⟨ah,ai⟩:=h.vals w' v a;exact⟨ah,by rw[gV ae];exact ai⟩
  ·rw[U] at a ⊢;exact⟨(h.jt a).1,ad (h.jt a).2⟩
  ·rw[U] at a ⊢;refine⟨(h.ch x a).1,λl' d=> ?_⟩;obtain⟨l,G,H,I,J⟩:=N x l' d;exact H (Or.inl ((h.ch x a).2 l G))
  ·rw[U] at a ⊢;refine⟨(h.rw x a).1,λl' d=> ?_⟩;obtain⟨l,G,H,I,J⟩:=N x l' d;exact I (Or.inl ((h.rw x a).2 l G))
  ·rw[U] at a ⊢;refine⟨(h.wr x a).1,λl' d=> ?_⟩;obtain⟨l,G,H,I,J⟩:=N x l' d;exact J (Or.inl ((h.wr x a).2 l G))
 unfold RmS.endW;split
 ·rename_i Y;have O: ∀w',(qh (qx s.ret w true) w').isSome=(decide (w'=w)||(qh s.ret w').isSome):=λw'=>by
   rw[qF];by_cases e:w'=w
   ·rw[if_pos e,decide_eq_true e];rfl
   ·rw[if_neg e,decide_eq_false e];rfl
  have aa: ∀v:Og,vi w=(v,true)->(qh s.ret v).isSome=true:=λv ao=>by
   unfold RmS.goesR at Y;rw[ao] at Y;simp only[Bool.not_true,Bool.false_or] at Y;cases hr:qh s.ret v with
   | none=>rw[hr] at Y;cases Y
   | some b=>rfl
  refine⟨(λc=>by simp only at c;rw[af,ab] at c;cases c),λw' v a=> ?_,λa=> ?_,λa=> ?_,λx a=> ?_,λx a=> ?_,λx a=> ?_⟩
  ·simp only at a;rw[qF] at a;have ap:({s.drain w with ret:=qx s.ret w true}:RmS).workers=s.workers:=gV ae;rw[ap];split at a
   ·rename_i e;injection a with e4
    exact⟨e4.symm,by rw[e];exact ag⟩
   ·exact h.vals w' v a
  ·simp only at a ⊢;rw[O] at a;by_cases e:((0,0):Og)=w
   ·exact aj e.symm
   ·rw[decide_eq_false e,Bool.false_or] at a;exact ac (h.rd a)
  ·simp only at a ⊢;rw[O] at a;rw[O];by_cases e:((1,0):Og)=w
   ·refine⟨?_,ak e.symm⟩;rw[aa (0,0) (by rw[<-e];rfl),Bool.or_true]
   ·rw[decide_eq_false e,Bool.false_or] at a;exact⟨by rw[(h.jt a).1,Bool.or_true],ad (h.jt a).2⟩
  ·simp only at a ⊢;rw[O] at a;rw[O];by_cases e:((2,x):Og)=w
   ·refine⟨?_,λl' d=> ?_⟩
    ·rw[aa (1,0) (by rw[<-e];rfl),Bool.or_true]
    ·obtain⟨l,G,H,I,J⟩:=N x l' d;exact H (Or.inr e.symm)
   ·rw[decide_eq_false e,Bool.false_or] at a;refine⟨by rw[(h.ch x a).1,Bool.or_true],λl' d=> ?_⟩;obtain⟨l,G,H,I,J⟩:=N x l' d;exact H (Or.inl ((h.ch x a).2 l G))
  ·simp only at a ⊢;rw[O] at a;rw[O];by_cases e:((3,x):Og)=w
   ·refine⟨?_,λl' d=> ?_⟩
    ·rw[aa (2,x) (by rw[<-e];rfl),Bool.or_true]
    ·obtain⟨l,G,H,I,J⟩:=N x l' d;exact I (Or.inr e.symm)
   ·rw[decide_eq_false e,Bool.false_or] at a;refine⟨by rw[(h.rw x a).1,Bool.or_true],λl' d=> ?_⟩;obtain⟨l,G,H,I,J⟩:=N x l' d;exact I (Or.inl ((h.rw x a).2 l G))
  ·simp only at a ⊢;rw[O] at a;rw[O];by_cases e:((4,x):Og)=w
   ·refine⟨?_,λl' d=> ?_⟩
    ·rw[aa (3,x) (by rw[<-e];rfl),Bool.or_true]
    ·obtain⟨l,G,H,I,J⟩:=N x l' d;exact J (Or.inr e.symm)
   ·rw[decide_eq_false e,Bool.false_or] at a;refine⟨by rw[(h.wr x a).1,Bool.or_true],λl' d=> ?_⟩;obtain⟨l,G,H,I,J⟩:=N x l' d;exact J (Or.inl ((h.wr x a).2 l G))
 ·exact al
end
section
variable {s s':RmS} {n:Nat}
theorem Jn (L:List Int):(yp L).Nodup:=by
 have key: ∀M:List Int,M.Nodup->(M.flatMap λx=>[((2,x):Og),(3,x),(4,x)]).Nodup:=by
  intro M
  induction M with
  | nil=>intro _;exact List.nodup_nil
  | cons x M ih=>
   intro h;rw[List.nodup_cons] at h;rw[List.flatMap_cons,List.nodup_append];refine⟨η,ih h.2,λa G b d e=> ?_⟩;subst e;rw[List.mem_flatMap] at d;obtain⟨y,H,d⟩:=d;simp only[List.mem_cons,List.not_mem_nil,or_false] at G d;rcases G with rfl | rfl | rfl<;>simp at d<;>exact h.1 (by rw[d];exact H)
 unfold yp;rw[List.nodup_cons,List.nodup_cons];refine⟨λh=> ?_,λh=> ?_,key _ (List.Pairwise.filter _ (by decide:subIds.Nodup))⟩
 ·rcases List.mem_cons.1 h with h | h
  ·cases h
  ·rw[List.mem_flatMap] at h;obtain⟨y,_,h⟩:=h;simp at h
 ·rw[List.mem_flatMap] at h;obtain⟨y,_,h⟩:=h;simp at h
theorem QB {K V:Type} [DecidableEq K] {k:K}: ∀{m:List (K×V)},k∈m.map Prod.fst-> ∃v,qh m k=some v
 | [],h=>by simp at h
 | (a,b)::l,h=>by
  unfold qh;by_cases e:k=a
  ·exact⟨b,by rw[if_pos e]⟩
  ·rw[if_neg e];refine QB ?_;rw[List.map_cons] at h;exact(List.mem_cons.1 h).elim (λc=>absurd c e) id
theorem ZS {K V:Type} [DecidableEq K] {k:K} {v:V}: ∀{m:List (K×V)},qh m k=some v->k∈m.map Prod.fst
 | [],h=>by simp[qh] at h
 | (a,b)::l,h=>by
  unfold qh at h;rw[List.map_cons];by_cases e:k=a
  ·rw[e];exact List.mem_cons_self
  ·rw[if_neg e] at h;exact List.mem_cons_of_mem _ (ZS h)
theorem Vp {α:Type} {f:α->Nat}: ∀{L:List α},(∀x∈L,f x=0)->(L.map f).sum=0
 | [],_=>rfl
 | x::L,h=>by
  rw[List.map_cons,List.sum_cons,h x List.mem_cons_self,Vp (λy d=>h y (List.mem_cons_of_mem _ d))]
theorem GU (h:qV n s) (J:wN s) (al:(s.book.map Prod.fst).Nodup) (an:(s.ret.map Prod.fst).Nodup) (am: ∀w∈s.workers,s.may w=false):
  s.queue=[]/\(s.closed=true->s.held=0/\s.ended=true)/\(∀x l,qh s.lanes x=some l->l.A=[]/\l.B=[]/\l.C=[])/\ ∀x,(jz s.book x).length<=s.held:=by
 have ae:(∀x l,qh s.lanes x=some l->l.A=[]/\l.B=[]/\l.C=[])-> ∀x,(jz s.book x).length<=s.held:=λd x=>by
  have:=(ZV h.ow al x).2.1;unfold RmS.inL at this;cases e:qh s.lanes x with
  | none=>rw[e] at this;simp only at this;omega
  | some l=>
   obtain⟨a,b,c⟩:=d x l e;rw[e] at this;simp only[a,b,c,List.length_nil] at this;omega
 have H: ∀w∈s.workers,(if s.closed then !((qh s.ret w).getD false) else s.mayOpen w)=false:=λw I=>by
  have:=am w I;unfold RmS.may at this;rw[decide_eq_true I,Bool.true_and] at this;exact this
 have af: ∀x l,qh s.lanes x=some l->((2,x):Og)∈s.workers/\((3,x):Og)∈s.workers/\((4,x):Og)∈s.workers:=λx l d=>by
  have G:=(h.ow.sub x l d).1;exact⟨mem_workers.2 (Or.inr (Or.inr ⟨Or.inl rfl,G,by simp only;rw[d];rfl⟩)),mem_workers.2 (Or.inr (Or.inr ⟨Or.inr (Or.inl rfl),G,by simp only;rw[d];rfl⟩)),mem_workers.2 (Or.inr (Or.inr ⟨Or.inr (Or.inr rfl),G,by simp only;rw[d];rfl⟩))⟩
 cases hc:s.closed with
 | false=>
  rw[hc] at H;simp only[Bool.false_eq_true,if_false] at H;have N: ∀x l,qh s.lanes x=some l->l.A=[]/\l.B=[]/\l.C=[]:=λx l d=>by
   obtain⟨w2,ac,w4⟩:=af x l d;have Y:=H _ w2;have aa:=H _ ac;have ab:=H _ w4;unfold RmS.mayOpen at Y aa ab;simp only[(by decide: ¬(2:Int)=0),(by decide: ¬(2:Int)=1),(by decide: ¬(3:Int)=0),(by decide: ¬(3:Int)=1),(by decide: ¬(4:Int)=0),(by decide: ¬(4:Int)=1),if_false,d] at Y aa ab;have O:(decide (0<l.A.length)&&decide (¬l.B.length=l.room))=false:=Y;have ag:decide (0<l.B.length)=false:=aa;have ah:decide (0<l.C.length)=false:=ab;have ad:l.B=[]:=List.length_eq_zero_iff.1 (by have:=of_decide_eq_false ag;omega);have aj:l.C=[]:=List.length_eq_zero_iff.1 (by have:=of_decide_eq_false ah;omega);have ao:=(h.ow.sub x l d).2.1;have ai:l.A=[]:=by
    rw[ad] at O;rw[decide_eq_true (by simp only[List.length_nil];omega: ¬([]:List (ItS×Bool)).length=l.room),Bool.and_true] at O;exact List.length_eq_zero_iff.1 (by have:=of_decide_eq_false O;omega)
   exact⟨ai,ad,aj⟩
  refine⟨?_,λe=>(by cases e),N,ae N⟩;have:=H (0,0) (mem_workers.2 (Or.inl rfl));unfold RmS.mayOpen at this;simp only[if_true] at this;exact List.length_eq_zero_iff.1 (by have:=of_decide_eq_false this;omega)
 | true=>
  rw[hc] at H;simp only[if_true] at H;have G: ∀w∈s.workers,(qh s.ret w).isSome=true:=λw I=>by
   have:=H w I;cases e:qh s.ret w with
   | none=>rw[e] at this;cases this
   | some v=>rfl
  have N: ∀x l,qh s.lanes x=some l->l.A=[]/\l.B=[]/\l.C=[]:=λx l d=>by
   obtain⟨w2,ac,w4⟩:=af x l d;exact⟨(J.ch x (G _ w2)).2 l d,(J.rw x (G _ ac)).2 l d,(J.wr x (G _ w4)).2 l d⟩
  refine⟨J.rd (G _ (mem_workers.2 (Or.inl rfl))),λ_=>⟨?_, ?_⟩,N,ae N⟩
  ·have ak:=(J.jt (G _ (mem_workers.2 (Or.inr (Or.inl rfl))))).2;unfold RmS.held;refine Vp λo _=> ?_
   cases ht:qh s.strs o with
   | none=>rfl
   | some t=>simp only[ak o t ht,List.length_nil]
  ·unfold RmS.ended;rw[hc,Bool.true_and];refine decide_eq_true (Nat.le_antisymm ?_ ?_)
   ·have:=yr (m:=s.workers) an (λw I=>by
     obtain⟨v,U⟩:=QB I
     exact(J.vals w v U).2)
    rwa [List.length_map] at this
   ·have:=yr (m:=s.ret.map Prod.fst) (Jn s.there) (λw I=>by
     obtain⟨v,U⟩:=Option.isSome_iff_exists.1 (G w I)
     exact ZS U)
    rwa [List.length_map] at this
end
def RmS.picks (s:RmS) (acc:Bool) (L:List Og):RmS:=L.foldl (λs w=>(s.pick w acc).1) s
theorem NU (s:RmS) (acc:Bool) (v:Og) (L:List Og):s.picks acc (v::L)=(s.pick v acc).1.picks acc L:=rfl
def RmS.isRet (s:RmS) (w:Og):Prop:=(qh s.ret w).getD false=true
structure NR (s s':RmS):Prop where
 closed:s'.closed=true
 workers:s'.workers=s.workers
 ret: ∀w,s.isRet w->s'.isRet w
 W: ∀x,(qh s'.lanes x).map (·.W)=(qh s.lanes x).map (·.W)
 tab:s'.tab=s.tab
 pks:s'.pks=s.pks
 clock:s'.clock=s.clock
theorem NR.refl {s:RmS} (h:s.closed=true):NR s s:=⟨h,rfl,λ_ h=>h,λ_=>rfl,rfl,rfl,rfl⟩
theorem NR.trans {s s' s'':RmS} (h:NR s s') (k:NR s' s''):NR s s'':=
 ⟨k.closed,k.workers.trans h.workers,λw e=>k.ret w (h.ret w e),λx=>(k.W x).trans (h.W x),k.tab.trans h.tab,k.pks.trans h.pks,k.clock.trans h.clock⟩
theorem O7 (s:RmS) (w:Og):(∀x,(qh (s.drain w).lanes x).map (·.W)=(qh s.lanes x).map (·.W))/\(s.drain w).tab=s.tab/\(s.drain w).pks=s.pks/\(s.drain w).clock=s.clock:=by
 have d: ∀{s':RmS},Loc s s'->(∀x,(qh s'.lanes x).map (·.W)=(qh s.lanes x).map (·.W))/\s'.tab=s.tab/\s'.pks=s.pks/\s'.clock=s.clock:=λk=>by
  refine⟨λx=> ?_,k.tab,k.pks,k.clock⟩;have:=congrArg (Option.map λp:Bool×Bool×List (Int×List Int)=>p.2.2) (k.lanes x)
  simpa [Option.map_map,Function.comp_def] using this
 unfold RmS.drain;split
 ·exact⟨λ_=>rfl,rfl,rfl,rfl⟩
 ·split
  ·exact d (za vn _ s)
  ·exact d (vt s w)
theorem OB {s:RmS} (I:s.closed=true) (w:Og):NR s (s.endW w)/\(s.goesR w=true->(s.endW w).isRet w):=by
 obtain⟨G,O,H⟩:=uF s w;obtain⟨w1,w2,N,w4⟩:=O7 s w;unfold RmS.endW;split
 ·rename_i J;refine⟨⟨H.trans I,gV (s':={s.drain w with ret:=qx s.ret w true}) G,λx d=> ?_,w1,w2,N,w4⟩,λ_=> ?_⟩
  ·unfold RmS.isRet at *;simp only;rw[qF];split
   ·rfl
   ·exact d
  ·unfold RmS.isRet;simp only;rw[qF,if_pos rfl];rfl
 ·rename_i J;exact⟨⟨H.trans I,gV G,λx d=>by unfold RmS.isRet at *;rw[O];exact d,w1,w2,N,w4⟩,λh=>absurd h J⟩
theorem NK {s:RmS} (d:s.closed=true) (w:Og) (acc:Bool):NR s (s.pick w acc).1/\(w∈s.workers->s.goesR w=true->(s.pick w acc).1.isRet w):=by
 unfold RmS.pick;split
 ·have h:=OB d w;have e:s.stepW w acc=s.endW w:=by unfold RmS.stepW;rw[if_pos d]
  rw[e];exact⟨h.1,λ_ H=>h.2 H⟩
 ·rename_i G;refine⟨NR.refl d,λI _=> ?_⟩;unfold RmS.may at G;rw[decide_eq_true I,if_pos d] at G
  simpa [RmS.isRet] using G
theorem qq (acc:Bool): ∀(L:List Og) {s:RmS},s.closed=true->NR s (s.picks acc L)
 | [],_,hc=>NR.refl hc
 | w::L,_,hc=>(NK hc w acc).1.trans (qq acc L (NK hc w acc).1.closed)
theorem On (acc:Bool) {w:Og} (L:List Og): ∀{s:RmS},s.closed=true->w∈L->w∈s.workers->((vi w).2=true->s.isRet (vi w).1)->(s.picks acc L).isRet w:=by
 induction L with
 | nil=>intro s _ H;cases H
 | cons v L ih=>
  intro s O H N J;have d:=NK O v acc;rw[NU];by_cases e:w=v
  ·have U:s.goesR w=true:=by
    unfold RmS.goesR;cases G:(vi w).2 with
    | false=>rfl
    | true=>have:=J G;unfold RmS.isRet at this;rw[this];rfl
   have I:=d.2 (by rw[<-e];exact N) (by rw[<-e];exact U);rw[<-e] at I ⊢;exact(qq acc L (by rw[e];exact d.1.closed)).ret _ I
  ·exact ih d.1.closed ((List.mem_cons.1 H).resolve_left e) (by rw[d.1.workers];exact N) λG=>d.1.ret _ (J G)
theorem Oj {s:RmS} {w:Og} (d:w∈s.workers) (G:(vi w).2=true):(vi w).1∈s.workers/\(vi w).1.1=w.1-1:=by
 rw[mem_workers] at d;obtain⟨a,b⟩:=w;rcases d with h | h | ⟨h1,h2,h3⟩
 ·injection h with h1 h2;subst h1;subst h2;cases G
 ·injection h with h1 h2;subst h1;subst h2;exact⟨mem_workers.2 (Or.inl rfl),rfl⟩
 ·simp only at h1 h2 h3;rcases h1 with rfl | rfl | rfl
  ·exact⟨mem_workers.2 (Or.inr (Or.inl rfl)),rfl⟩
  ·exact⟨mem_workers.2 (Or.inr (Or.inr ⟨Or.inl rfl,h2,h3⟩)),rfl⟩
  ·exact⟨mem_workers.2 (Or.inr (Or.inr ⟨Or.inr (Or.inl rfl),h2,h3⟩)),rfl⟩
theorem NT (acc:Bool) {L:List Og} {s:RmS} (n:Int) (G:s.closed=true) (I: ∀w∈s.workers,w∈L) (h: ∀w∈s.workers,w.1<n->s.isRet w): ∀w∈(s.picks acc L).workers,w.1<n+1->(s.picks acc L).isRet w:=by
 intro w d O;have k:=qq acc L G;rw[k.workers] at d;by_cases e:w.1<n
 ·exact k.ret _ (h w d e)
 ·exact On acc L G (I w d) d λJ=>by
   obtain⟨H,N⟩:=Oj d J;exact h _ H τ
theorem OH (acc:Bool) {s:RmS} (ad:s.closed=true) (U Y aa ab ac:List Og) (G: ∀w∈s.workers,w∈U/\w∈Y/\w∈aa/\w∈ab/\w∈ac):
  ∀w∈s.workers,(s.picks acc (U++(Y++(aa++(ab++ac))))).isRet w:=by
 have H: ∀(L M:List Og) (s:RmS),s.picks acc (L++M)=(s.picks acc L).picks acc M:=λL M s=>by unfold RmS.picks;rw[List.foldl_append]
 have ag:=NT acc 0 ad (λw d=>(G w d).1) (λw d ae=>by
  rw[mem_workers] at d;rcases d with rfl | rfl | ⟨h,_⟩
  ·exact absurd ae ζ
  ·exact absurd ae ζ
  ·omega)
 have I:=qq acc U ad;have ah:=NT acc (0+1) I.closed (λw d=>(G w (by rw[<-I.workers];exact d)).2.1) ag;have J:=I.trans (qq acc Y I.closed);have ai:=NT acc (0+1+1) J.closed (λw d=>(G w (by rw[<-J.workers];exact d)).2.2.1) ah;have N:=J.trans (qq acc aa J.closed);have aj:=NT acc (0+1+1+1) N.closed (λw d=>(G w (by rw[<-N.workers];exact d)).2.2.2.1) ai;have O:=N.trans (qq acc ab N.closed);have ak:=NT acc (0+1+1+1+1) O.closed (λw d=>(G w (by rw[<-O.workers];exact d)).2.2.2.2) aj;have af:=O.trans (qq acc ac O.closed);intro w d;rw[H,H,H,H];refine ak w (by rw[af.workers];exact d) ?_;rw[mem_workers] at d;rcases d with rfl | rfl | ⟨h,_⟩
 ·decide
 ·decide
 ·omega
def V8 (L:List Og) (i:Nat):List Og:=(List.range L.length).map λk=>L.getD ((i+k)%L.length) (0,0)
def yw (L M:List Og):Nat->List Og
 | 0=>[]
 | n+1=>yw L M n++(M++V8 L n)
theorem NH (L:List Og) (i:Nat):(V8 L i).length=L.length:=by unfold V8;simp
theorem NL (L M:List Og): ∀n,(yw L M n).length=n* (M.length+L.length)
 | 0=>by simp[yw]
 | n+1=>by
  rw[yw,List.length_append,List.length_append,NH,NL L M n,Nat.add_mul];omega
theorem OQ {L:List Og} {w:Og} (h:w∈L) (i:Nat):w∈V8 L i:=by
 obtain⟨j,d,rfl⟩:=List.mem_iff_getElem.1 h;have G:0<L.length:=by omega
 have I:i%L.length<L.length:=Nat.mod_lt _ G;refine List.mem_map.2 ⟨(j+(L.length-i%L.length))%L.length,List.mem_range.2 (Nat.mod_lt _ G), ?_⟩;have e:(i+(j+(L.length-i%L.length))%L.length)%L.length=j:=by
  rw[Nat.add_mod,Nat.mod_mod];rw[<-Nat.add_mod];have H:i+(j+(L.length-i%L.length))=j+(L.length* (i/L.length)+L.length):=by
   have:=Nat.div_add_mod i L.length;omega
  rw[H,show L.length* (i/L.length)+L.length=L.length* (i/L.length+1) by rw[Nat.mul_add,Nat.mul_one],Nat.add_mul_mod_self_left,Nat.mod_eq_of_lt d]
 rw[e,List.getD_eq_getElem?_getD,List.getElem?_eq_getElem d];rfl
theorem OS {n:Nat} {s:RmS} (acc:Bool) (M:List Og) (H:s.closed=true): ∀w∈(s.picks acc (yw s.workers M 5)).workers,(s.picks acc (yw s.workers M 5)).may w=false:=by
 have I:yw s.workers M 5=(M++V8 s.workers 0)++((M++V8 s.workers 1)++((M++V8 s.workers 2)++((M++V8 s.workers 3)++(M++V8 s.workers 4)))):=by
  simp only[yw,List.nil_append,List.append_assoc]
 have G: ∀i,∀w∈s.workers,w∈M++V8 s.workers i:=λi w d=>List.mem_append_right _ (OQ d i)
 intro w d;have k:=qq acc (yw s.workers M 5) H;rw[k.workers] at d;have h:=OH acc H _ _ _ _ _ (λw d=>⟨G 0 w d,G 1 w d,G 2 w d,G 3 w d,G 4 w d⟩) w d;rw[<-I] at h;unfold RmS.may;rw[if_pos k.closed];unfold RmS.isRet at h;rw[h];simp
structure A22 where
 act:Int
 sub:Int
 pub:Int
 layer:Int
 b:List Int
 w:Og
 acc:Bool
 own:Int
 stamp:Int
 seq:Int
 s0:Int
 s1:Int
 s2:Int
def doR (s:RmS) (a:A22):RmS×Int×Bool:=
 if a.act=0 then ((s.arrive a.b).1,(s.arrive a.b).2,false) else if a.act=1 then ((s.pick a.w a.acc).1,0,(s.pick a.w a.acc).2) else if a.act=2 then (s.tick.1,s.tick.2,false)
 else if a.act=3 then ((s.publish a.pub a.s0 a.s1 a.s2).1,(s.publish a.pub a.s0 a.s1 a.s2).2,false) else if a.act=4 then ((s.join a.sub a.own a.seq a.stamp).1,(s.join a.sub a.own a.seq a.stamp).2,false)
 else if a.act=5 then ((s.subscribe a.sub a.pub a.layer).1,(s.subscribe a.sub a.pub a.layer).2,false) else if a.act=6 then ((s.want a.sub a.layer).1,(s.want a.sub a.layer).2,false)
 else if a.act=7 then ((s.leave a.sub).1,(s.leave a.sub).2,false) else if a.act=8 then (s.shut.1,s.shut.2,false) else (s,0,false)
section
variable {s s':RmS} {n:Nat}
theorem KZ (h:qV n s) (I:(s.tab.u.map Prod.fst).Nodup) (a:A22) (d:Byt a.b) (G:a.b.length<=400) (H: ∀v∈[a.s0,a.s1,a.s2],0<=v/\v<=4294967295):qV (n+1) (doR s a).1:=by
 unfold doR;split
 ·exact h.arrive d G
 ·split
  ·exact h.pick _ _
  ·split
   ·exact h.tick
   ·split
    ·exact h.publish _ _ _ _ H
    ·split
     ·exact h.join _ _ _ _
     ·split
      ·exact h.subscribe _ _ _
      ·split
       ·exact h.want _ _
       ·split
        ·exact h.leave I _
        ·split
         ·exact h.shut
         ·exact h.up
theorem Vn (s:RmS) (o:Og):(s.tick1 o).ret=s.ret/\(s.tick1 o).closed=s.closed:=by
 unfold RmS.tick1;cases qh s.strs o with
 | none=>exact⟨rfl,rfl⟩
 | some t=>simp only;split<;>exact⟨rfl,rfl⟩
theorem gJ: ∀(L:List Og) (s:RmS),(L.foldl RmS.tick1 s).ret=s.ret/\(L.foldl RmS.tick1 s).closed=s.closed
 | [],_=>⟨rfl,rfl⟩
 | o::L,s=>by
  rw[List.foldl_cons];exact⟨(gJ L _).1.trans (Vn s o).1,(gJ L _).2.trans (Vn s o).2⟩
theorem YR (w:Og) (acc:Bool):(s.stepW w acc).closed=s.closed:=by
 unfold RmS.stepW;split
 ·unfold RmS.endW;split
  ·exact(uF s w).2.2
  ·exact(uF s w).2.2
 ·split
  ·unfold RmS.read;cases s.queue with
   | nil=>rfl
   | cons b q=>
    simp only;split
    ·unfold RmS.tell;split
     ·exact(ko _ _).closed
     ·rfl
    ·unfold RmS.media;split
     ·cases qh s.tab.o (jl b).1.sc with
      | none=>rfl
      | some o=>
       unfold RmS.accept;simp only;cases qh s.strs o<;>rfl
     ·rfl
  ·split
   ·exact(kr s).closed
   ·split
    ·exact(vu s _).closed
    ·split
     ·exact(yA s _).closed
     ·unfold RmS.write;cases qh s.lanes w.2<;>rfl
def Yl (s:RmS) (r:RmS×Int):Prop:=(s.closed=true->r=(s,7))/\(s.closed=false->r.1.ret=s.ret/\r.1.closed=false)
theorem kI {r:RmS×Int} (h:s.closed=false->r.1.ret=s.ret/\r.1.closed=s.closed):Yl s (if s.closed then (s,7) else r):=by
 refine⟨λc=>by rw[if_pos c],λc=> ?_⟩;rw[if_neg (by rw[c];decide)];exact⟨(h c).1,(h c).2.trans c⟩
theorem Mh (a:A22):Yl s (s.arrive a.b)/\Yl s s.tick/\Yl s (s.publish a.pub a.s0 a.s1 a.s2)/\Yl s (s.join a.sub a.own a.seq a.stamp)/\Yl s (s.subscribe a.sub a.pub a.layer)/\Yl s (s.want a.sub a.layer)/\Yl s (s.leave a.sub):=by
 refine⟨kI λ_=> ?_,kI λ_=>⟨(gJ _ _).1,(gJ _ _).2⟩,kI λ_=> ?_,kI λ_=> ?_,kI λ_=> ?_,kI λ_=> ?_,kI λ_=> ?_⟩
 all_goals (repeat' split)
 all_goals exact⟨rfl,rfl⟩
theorem QG (a:A22) (d: ¬a.act=1):(s.closed=true->(doR s a).1=s)/\(s.closed=false->(doR s a).1.ret=s.ret)/\(doR s a).1.closed=(s.closed||decide (a.act=8))/\(s.closed=true->0<=a.act/\a.act<=7->(doR s a).2.1=7):=by
 obtain⟨I,J,N,O,U,Y,aa⟩:=Mh (s:=s) a;have key: ∀r:RmS×Int,Yl s r-> ¬a.act=8->(s.closed=true->r.1=s)/\(s.closed=false->r.1.ret=s.ret)/\r.1.closed=(s.closed||decide (a.act=8))/\(s.closed=true->0<=a.act/\a.act<=7->r.2=7):=λr g ab=>by
  obtain⟨G,H⟩:=g;rw[decide_eq_false ab,Bool.or_false];refine⟨λc=>by rw[G c],λc=>(H c).1, ?_,λc _=>by rw[G c]⟩;cases c:s.closed with
  | true=>rw[G c];exact c
  | false=>exact(H c).2
 by_cases e0:a.act=0
 ·unfold doR;rw[if_pos e0];exact key _ I τ
 by_cases e2:a.act=2
 ·unfold doR;rw[if_neg e0,if_neg d,if_pos e2];exact key _ J τ
 by_cases e3:a.act=3
 ·unfold doR;rw[if_neg e0,if_neg d,if_neg e2,if_pos e3];exact key _ N τ
 by_cases e4:a.act=4
 ·unfold doR;rw[if_neg e0,if_neg d,if_neg e2,if_neg e3,if_pos e4];exact key _ O τ
 by_cases e5:a.act=5
 ·unfold doR;rw[if_neg e0,if_neg d,if_neg e2,if_neg e3,if_neg e4,if_pos e5];exact key _ U τ
 by_cases e6:a.act=6
 ·unfold doR;rw[if_neg e0,if_neg d,if_neg e2,if_neg e3,if_neg e4,if_neg e5,if_pos e6];exact key _ Y τ
 by_cases e7:a.act=7
 ·unfold doR;rw[if_neg e0,if_neg d,if_neg e2,if_neg e3,if_neg e4,if_neg e5,if_neg e6,if_pos e7];exact key _ aa τ
 by_cases e8:a.act=8
 ·unfold doR;rw[if_neg e0,if_neg d,if_neg e2,if_neg e3,if_neg e4,if_neg e5,if_neg e6,if_neg e7,if_pos e8];simp only;unfold RmS.shut;cases c:s.closed with
  | true=>exact⟨λ_=>rfl,λe=>(by cases e),c,λ_ h=>by omega⟩
  | false=>exact⟨λe=>(by cases e),λ_=>rfl,by simp[e8],λe=>(by cases e)⟩
 ·unfold doR;rw[if_neg e0,if_neg d,if_neg e2,if_neg e3,if_neg e4,if_neg e5,if_neg e6,if_neg e7,if_neg e8];exact⟨λ_=>rfl,λ_=>rfl,by rw[decide_eq_false e8,Bool.or_false],λ_ h=>by omega⟩
theorem Xn (a:A22) (d:a.act=1):doR s a=((s.pick a.w a.acc).1,0,(s.pick a.w a.acc).2):=by
 unfold doR;rw[if_neg τ,if_pos d]
theorem UY (a:A22):(doR s a).1.closed=(s.closed||decide (a.act=8)):=by
 by_cases ha:a.act=1
 ·rw[Xn a ha,decide_eq_false τ,Bool.or_false];unfold RmS.pick;split
  ·exact YR _ _
  ·rfl
 ·exact(QG a ha).2.2.1
theorem IP (h:wN s) (I:OwO s) (a:A22):wN (doR s a).1:=by
 by_cases ha:a.act=1
 ·rw[Xn a ha];unfold RmS.pick;split
  ·rename_i H;simp only;cases hc:s.closed with
   | true=>
    unfold RmS.stepW;rw[if_pos hc];exact h.endW I hc H
   | false=>exact wN.nil (Us hc (h.open_ hc) _ _)
  ·exact h
 ·obtain⟨d,G,_⟩:=QG (s:=s) a ha;cases hc:s.closed with
  | true=>rw[d hc];exact h
  | false=>exact wN.nil ((G hc).trans (h.open_ hc))
end
theorem EI (acc:Bool) (L:List Og): ∀{n:Nat} {s:RmS},qV n s->wN s->qV (n+L.length) (s.picks acc L)/\wN (s.picks acc L):=by
 induction L with
 | nil=>intro n s h d;exact⟨h,d⟩
 | cons w L ih=>
  intro n s h d;rw[NU];have G:=IP d h.ow ⟨1,0,0,0,[],w,acc,0,0,0,0,0,0⟩;rw[Xn _ rfl] at G;have:=ih (h.pick w acc) G;rw[List.length_cons,show n+(L.length+1)=n+1+L.length by omega];exact this
theorem OT {n:Nat} {s:RmS} (h:qV n s) (I:wN s) (d:s.closed=true) (acc:Bool) (M:List Og)
  (J:((s.picks acc (yw s.workers M 5)).book.map Prod.fst).Nodup) (N:((s.picks acc (yw s.workers M 5)).ret.map Prod.fst).Nodup):
  (s.picks acc (yw s.workers M 5)).queue=[]/\(s.picks acc (yw s.workers M 5)).held=0/\(s.picks acc (yw s.workers M 5)).ended=true/\
   (∀x l,qh (s.picks acc (yw s.workers M 5)).lanes x=some l->l.A=[]/\l.B=[]/\l.C=[])/\ ∀x,jz (s.picks acc (yw s.workers M 5)).book x=[]:=by
 obtain⟨G,H⟩:=EI acc (yw s.workers M 5) h I;obtain⟨O,U,Y,aa⟩:=GU G H J N (OS (n:=n) acc M d);obtain⟨ab,ac⟩:=U (qq acc (yw s.workers M 5) d).closed;exact⟨O,ab,ac,Y,λx=>List.length_eq_zero_iff.1 (by have:=aa x;omega)⟩
end Go.Proofs.YtlmllmonabafjaaGreatDoor
