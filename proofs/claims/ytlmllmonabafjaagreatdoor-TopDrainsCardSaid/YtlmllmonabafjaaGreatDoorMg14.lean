/- Contracts and plain laws. -/
import Derived.Test.YtlmllmonabafjaaGreatDoorMg13
namespace Go.Proofs.YtlmllmonabafjaaGreatDoor
open Go.Value renaming bool->μ,slice->δ,pointer->π,agg->θ
open Go.IntKind renaming i64->ι,u8->υ,u16->φ,u32->ω,i32->χ,u64->ψ
set_option linter.unusedSimpArgs false
set_option maxHeartbeats 8000000
set_option linter.unusedVariables false
open Go.RowKit
set_option maxRecDepth 100000
section
variable {s s':RmS} {n:Nat}
structure qX (n:Nat) (s:RmS):Prop where
 ow:OwO s
 tb:GG s
 num:JY n s
theorem qX.up (h:qX n s):qX (n+1) s:=⟨h.ow,h.tb,h.num.up⟩
theorem Loc.ok (h:Loc s s') (k:qX n s) (o:OwO s'):qX n s':=⟨o,h.tb k.tb,h.num k.num⟩
theorem vn {c:CfR} (h:zR c=true):(1<=c.room/\c.room<=8)/\wA c.hold c.wait/\(1<=c.space/\c.space<=c.retry/\c.retry<=1000)/\1<=c.most/\c.most<=10:=by
 unfold zR at h;simp only[Bool.and_eq_true,decide_eq_true_eq] at h;exact h
structure Tk (m:Nat) (now:Int) (s s':RmS):Prop where
 cfg:s'.cfg=s.cfg
 queue:s'.queue=s.queue
 tab:s'.tab=s.tab
 pks:s'.pks=s.pks
 cnt:s'.cnt=s.cnt
 book:s'.book=s.book
 lanes:s'.lanes=s.lanes
 clock:s'.clock=s.clock
 reqs:s'.reqs.length<=s.reqs.length+m
 strs: ∀o,(qh s'.strs o).map (λt=>(t.any,t.great))=(qh s.strs o).map λt=>(t.any,t.great)
 asks: ∀o t',qh s'.strs o=some t'-> ∃t,qh s.strs o=some t/\((0<=t.asks.tries->0<=t'.asks.tries)/\t'.asks.tries<=(if 0<=t.asks.tries then t.asks.tries else 0)+m/\(t'.asks.last=t.asks.last∨t'.asks.last=now))
theorem Bh (s:RmS) (o:Og):Tk 1 s.clock s (s.tick1 o):=by
 have d:Tk 1 s.clock s s:=⟨rfl,rfl,rfl,rfl,rfl,rfl,rfl,rfl,τ,λ_=>rfl,λo t' h=>⟨t',h,λe=>e,by split<;>omega,Or.inl rfl⟩⟩;unfold RmS.tick1;cases ht:qh s.strs o with
 | none=>exact d
 | some t=>
  simp only;have key: ∀o2 t',qh (qw s.strs o {t with asks:=(vF s.cfg.space s.cfg.retry t.asks (s.wants o) s.clock).1}) o2=some t'-> ∃t,qh s.strs o2=some t/\((0<=t.asks.tries->0<=t'.asks.tries)/\t'.asks.tries<=(if 0<=t.asks.tries then t.asks.tries else 0)+1/\(t'.asks.last=t.asks.last∨t'.asks.last=s.clock)):=by
   intro o2 t' h;rw[qy] at h;split at h
   ·rename_i e;injection h with e2
    subst e e2;refine⟨t,ht, ?_⟩;simp only;unfold vF uu;split
    ·refine⟨λe=> ?_, ?_,Or.inl rfl⟩
     ·simp only;split<;>omega
     ·simp only;split<;>split<;>omega
    ·refine⟨λe=> ?_, ?_,Or.inr rfl⟩
     ·simp only;split<;>omega
     ·simp only;split<;>split<;>omega
   ·exact⟨t',h,λe=>e,by split<;>omega,Or.inl rfl⟩
  split
  ·exact⟨rfl,rfl,rfl,rfl,rfl,rfl,rfl,rfl,by unfold RmS.request;simp,xl _ ht rfl,key⟩
  ·exact⟨rfl,rfl,rfl,rfl,rfl,rfl,rfl,rfl,η,xl _ ht rfl,key⟩
theorem gP: ∀(L:List Og) (s:RmS),Tk L.length s.clock s (L.foldl RmS.tick1 s)
 | [],s=>⟨rfl,rfl,rfl,rfl,rfl,rfl,rfl,rfl,η,λ_=>rfl,λo t' h=>⟨t',h,λe=>e,by split<;>omega,Or.inl rfl⟩⟩
 | o::L,s=>by
  rw[List.foldl_cons];have h:=Bh s o;have k:=gP L (s.tick1 o);rw[h.clock] at k;refine⟨k.cfg.trans h.cfg,k.queue.trans h.queue,k.tab.trans h.tab,k.pks.trans h.pks,k.cnt.trans h.cnt,k.book.trans h.book,k.lanes.trans h.lanes,by rw[k.clock,h.clock], ?_,λo=>(k.strs o).trans (h.strs o),λo2 t' O=> ?_⟩
  ·have:=k.reqs;have:=h.reqs;rw[List.length_cons];omega
  ·obtain⟨t1,G,I,c1,d⟩:=k.asks o2 t' O;obtain⟨t0,a0,H,J,N⟩:=h.asks o2 t1 G;refine⟨t0,a0,λe=>I (H e), ?_, ?_⟩
   ·rw[List.length_cons];split at c1<;>split at J<;>split<;>omega
   ·rcases d with d | d
    ·rw[d];exact N
    ·exact Or.inr d
theorem Jf (s:RmS):s.origins.length<=9:=Nat.le_trans (List.length_filter_le _ _) ζ
theorem qX.tick (h:qX n s):qX (n+1) s.tick.1:=by
 have I:=h.ow.tick;unfold RmS.tick at I ⊢;split
 ·exact h.up
 ·rename_i an;rw[if_neg an] at I;have k:=gP s.origins {s with clock:=s.clock+1};have az:=Jf s;obtain⟨af,ar,au,av,al,aw,ax,ay,am,ag,ah,ai,aj,ao,ak,ap,aq⟩:=h.num;simp only at k I ⊢;generalize List.foldl RmS.tick1 {s with clock:=s.clock+1} s.origins=s' at *;have J:=k.cfg;have N:=k.queue;have O:=k.tab;have H:=k.pks;have d:=k.cnt;have Y:=k.book;have U:=k.lanes;have aa:=k.clock;have ae:=k.reqs;simp only at J N O H d Y U aa ae;refine⟨I,h.tb.loc O (λx=>by rw[U]) (λo=>vz (k.strs o)),⟨by rw[J];exact af,by rw[d];omega,by rw[d];omega,by rw[d];omega,by rw[d,H];exact al,by rw[d];omega,by rw[H];omega,by rw[aa];omega,λo t a b=> ?_,λo t a=> ?_,by rw[N];exact ah,by rw[J,N];exact ai,by rw[H];exact aj,by rw[O];omega,λx l a=> ?_,by rw[Y];omega,τ⟩⟩
  ·obtain⟨t',e,f⟩:=uz (k.strs o) a;simp only[Prod.mk.injEq] at f;have:=am o t' e (by rw[<-f.1];exact b);rw[f.2];omega
  ·obtain⟨t0,a0,ac,ad,G⟩:=k.asks o t a;obtain⟨ab,aA,aB,aC⟩:=ag o t0 a0;rw[if_pos ab] at ad;refine⟨ac ab,τ, ?_⟩;rcases G with G | G<;>rw[G]<;>omega
  ·rw[U] at a;have:=ak x l a;omega
theorem qX.order (h:qX n s):qX n s.order:=(yT s).ok h (qS.order h.ow λa d=>(h.num.pkok a d).2.2)
theorem qX.choose (h:qX n s) (x:Int):qX n (s.choose x):=(zO s x).ok h (h.ow.choose x)
theorem qX.rewrite (h:qX n s) (x:Int):qX n (s.rewrite x):=(zm s x).ok h (h.ow.rewrite x)
theorem Li (d sq:Int):d-32768<=GD d sq/\GD d sq<=d+32767:=by
 unfold GD ahd;omega
theorem Gh {t:zu} {sq:Int} {n:Nat} (d:0<=sq/\sq<=65535) (h:t.any=true->65536<=t.great/\t.great<=65536* (n+2)):32768<=vP t sq/\vP t sq<=65536* ((n+1:Nat)+2)/\(t.any=false->65536<=vP t sq):=by
 unfold vP;cases ha:t.any with
 | true=>
  have:=h ha;have:=Li t.great sq;simp only[if_true];refine⟨τ,τ,λe=>(by cases e)⟩
 | false=>
  simp only[Bool.false_eq_true,if_false];refine⟨τ,τ,λ_=>by omega⟩
theorem VA (id:Int): ∀(L:List Int) (b:Bk),(Jq b L id).length<=b.length+L.length
 | [],b=>by simp[Jq]
 | x::L,b=>by
  have h:=VA id L (vZ b (x,id)).1;have d:(vZ b (x,id)).1.length<=b.length+1:=by
   unfold vZ
   repeat' split
   all_goals first | exact QJ _ _ _ | exact Nat.le_succ _
  unfold Jq at h ⊢;rw[List.foldl_cons,List.length_cons];omega
theorem qX.accept (h:qX n s) (o:Og) (p:Pk) (J:wP p/\gu p/\jM p=true/\0<=p.sq/\p.sq<=65535):qX (n+1) (s.accept o p):=by
 have I:=qS.accept h.ow h.tb.act o p;unfold RmS.accept at I ⊢;cases ht:qh s.strs o with
 | none=>exact h.up
 | some t=>
  rw[ht] at I;simp only at I ⊢;obtain⟨U,ag,ah,ai,aj,ak,al,am,H,N,Y,aa,ab,ad,ac,ae,af⟩:=h.num;refine⟨I,h.tb.loc rfl (λx=>rfl) (λo2=> ?_),⟨U,by simp only;omega,by simp only;omega,by simp only;omega, ?_,by simp only;omega, ?_,by simp only;omega,λo2 t2 a b=> ?_,λo2 t2 a=> ?_,Y,aa,λa d=> ?_,by simp only;omega,λx l a=> ?_, ?_,by simp only;omega⟩⟩
  ·simp only;rw[qy];split
   ·rename_i e;rw[e,ht];rfl
   ·rfl
  ·simp only[List.length_append,List.length_cons,List.length_nil];omega
  ·simp only[List.length_append,List.length_cons,List.length_nil];omega
  ·simp only at a;rw[qy] at a;split at a
   ·injection a with e
    subst e;have O:=Gh (n:=n) J.2.2.2 (H o t ht);unfold Yo;simp only;split
    ·rename_i G;rcases G with G | G
     ·have:=O.2.2 G;omega
     ·cases d:t.any with
      | true=>have:=H o t ht d;omega
      | false=>have:=O.2.2 d;omega
    ·rename_i G;cases d:t.any with
     | true=>have:=H o t ht d;omega
     | false=>exact absurd (Or.inl d) G
   ·have:=H o2 t2 a b;omega
  ·simp only at a;rw[qy] at a;split at a
   ·injection a with e
    subst e;have:=N o t ht;unfold Yo;simp only;omega
   ·have:=N o2 t2 a;omega
  ·rcases List.mem_append.1 d with d | d
   ·exact ab a d
   ·rw[List.mem_singleton] at d;subst d;exact⟨J.1,J.2.1,J.2.2.1⟩
  ·have:=ac x l a;omega
  ·have an:(prR (j5 o.1) s.tab.u).length<=6:=by unfold prR;exact Nat.le_trans (List.length_filter_le _ _) ζ
   have:=VA s.pks.length (prR (j5 o.1) s.tab.u) s.book;simp only;split
   ·omega
   ·rw[vX];omega
theorem qX.read (h:qX n s):qX (n+1) s.read:=by
 have d:=qS.read h.ow h.tb.act;unfold RmS.read at d ⊢;cases hq:s.queue with
 | nil=>exact h.up
 | cons b q=>
  rw[hq] at d;simp only at d ⊢;obtain⟨am,av,aw,ax,ay,az,aA,aB,aC,an,J,N,ao,ap,aq,ar,au⟩:=h.num;have aD:=J b (by rw[hq];exact List.mem_cons_self);have O:qX n {s with queue:=q}:=⟨h.ow.same rfl rfl rfl rfl,h.tb.loc rfl (λ_=>rfl) (λ_=>rfl),⟨am,av,aw,ax,ay,az,aA,aB,aC,an,λc H=>J c (by rw[hq];exact List.mem_cons_of_mem _ H),by rw[hq] at N;simp only[List.length_cons] at N ⊢;omega,ao,ap,aq,ar,au⟩⟩;have G: ∀c:CnR,c.acc=s.cnt.acc->c.lost=s.cnt.lost->(0<=c.malf/\c.malf<=n+1)->(0<=c.told/\c.told<=n+1)->(0<=c.strange/\c.strange<=n+1)->qX (n+1) {s with queue:=q,cnt:=c}:=by
   intro c c1 c2 c3 c4 c5;obtain⟨U,aE,aF,aG,ah,ai,aj,ak,al,Y,aa,ab,ac,ad,ae,af,ag⟩:=O.up.num;exact⟨h.ow.same rfl rfl rfl rfl,h.tb.loc rfl (λ_=>rfl) (λ_=>rfl),⟨U,c3,c4,c5,by simp only;rw[c1];exact ah,by simp only;rw[c2];exact ai,aj,ak,al,Y,aa,ab,ac,ad,ae,af,ag⟩⟩
  split
  ·rename_i H;rw[if_pos H] at d;unfold RmS.tell at d ⊢;split
   ·rename_i I;rw[if_pos I] at d;exact(QB _ _).ok (G {s.cnt with told:=s.cnt.told+1} rfl rfl (by simp only;omega) (by simp only;omega) (by simp only;omega)) d
   ·exact G {s.cnt with malf:=s.cnt.malf+1} rfl rfl (by simp only;omega) (by simp only;omega) (by simp only;omega)
  ·unfold RmS.media;split
   ·rename_i I;cases qh s.tab.o (xk b).1.sc with
    | none=>exact G {s.cnt with strange:=s.cnt.strange+1} rfl rfl (by simp only;omega) (by simp only;omega) (by simp only;omega)
    | some o=>exact O.accept o _ (BQ aD.1 I)
   ·exact G {s.cnt with malf:=s.cnt.malf+1} rfl rfl (by simp only;omega) (by simp only;omega) (by simp only;omega)
end
section
variable {s s':RmS} {n:Nat}
theorem qX.write (h:qX n s) (x:Int) (acc:Bool):qX (n+1) (s.write x acc):=by
 have G:=h.ow.write x acc;unfold RmS.write at G ⊢;cases hl:qh s.lanes x with
 | none=>exact h.up
 | some l=>
  rw[hl] at G;simp only at G ⊢;obtain⟨aE,aL,aM,aN,aO,aP,aQ,aR,aS,aF,aG,aH,aI,J,O,aJ,aK⟩:=h.num;have U: ∀c:Bool,(if c then jn s.book x (qH l acc).2.1 (qH l acc).2.2.1 else s.book).length=s.book.length:=by
   intro c;cases c
   ·rfl
   ·exact zr _ _ _ _
  have ax:=h.ow.sub x l hl;have aT:(qH l acc).1.W.length<=l.W.length+1:=by
   rcases yr l acc with ⟨_,e⟩ | ⟨o,C,ar,⟨H,e⟩ | ⟨_,_,H,e⟩⟩
   ·rw[e];simp
   ·rw[e];simp only;split
    ·simp
    ·omega
   ·rw[e];simp
  have aw:(qH l acc).1.wanted=l.wanted:=by
   rcases yr l acc with ⟨_,e⟩ | ⟨o,C,ar,⟨H,e⟩ | ⟨_,_,H,e⟩⟩<;>rw[e]
  have au:(∀y,(qh (zL s.tab x).1.u y).isSome=(qh s.tab.u y).isSome)/\(zL s.tab x).1.o=s.tab.o/\(zL s.tab x).1.s=s.tab.s/\(∀y d,qh (zL s.tab x).1.u y=some d->d.2.1=true->y≠x/\qh s.tab.u y=some d)/\(zL s.tab x).1.u.length<=n:=by
   unfold zL;rw[if_pos (subIds_iff.1 ax.1)];split
   ·rename_i I;refine⟨λy=> ?_,rfl,rfl,λy d a b=> ?_, ?_⟩
    ·simp only;rw[qy];split
     ·rename_i e;rw[e];exact I.1.symm
     ·rfl
    ·simp only at a;rw[qy] at a;split at a
     ·injection a with e
      rw[<-e] at b;cases b
     ·rename_i e;exact⟨e,a⟩
    ·simp only;rw[vM _ I.1];exact J
   ·rename_i I;refine⟨λy=>rfl,rfl,rfl,λy d a b=>⟨λe=> ?_,a⟩,J⟩;rw[e] at a;exact I ⟨by rw[a];rfl,by rw[a];exact b⟩
  have Y: ∀(T:TS) (b:Bk),T.u.length<=n->b.length=s.book.length->JY (n+1) {s with lanes:=qw s.lanes x (qH l acc).1,tab:=T,book:=b}:=by
   intro T b aU H;obtain⟨ad,aj,ak,al,am,an,ao,ap,aq,ae,af,ag,ah,aB,aC,aD,ai⟩:=h.num.up;refine⟨ad,aj,ak,al,am,an,ao,ap,aq,ae,af,ag,ah,by simp only;omega,λy m a=> ?_,by simp only;omega,ai⟩;simp only at a;rw[qy] at a;split at a
   ·injection a with e
    subst e;have:=O x l hl;omega
   ·have:=O y m a;omega
  cases hg:(qH l acc).1.gone with
  | true=>
   rw[hg] at G;simp only[if_true] at G ⊢;obtain⟨aa,az,N,ab,aA⟩:=au;refine⟨G,⟨λy ay=>h.tb.keys y (by rw[<-aa];exact ay),λy=> ?_,λy d a b=> ?_,λy d a b=> ?_,λp m av=> ?_,λy o a=> ?_,by simp only;rw[N];exact h.tb.src⟩,Y _ _ aA (by rw[show ∀(m:Bk) a f,(vQ m a f).length=m.length from λm a f=>by simp[vQ],U])⟩
   ·simp only;rw[aa,h.tb.lane,qy];split
    ·rename_i e;rw[e,hl];rfl
    ·rfl
   ·obtain⟨e,ac⟩:=ab y d a b;obtain⟨m,c1,c2,c3⟩:=h.tb.act y d ac b;exact⟨m,by simp only;rw[qy,if_neg e];exact c1,c2,c3⟩
   ·simp only;rw[N];exact h.tb.pub y d (ab y d a b).2 b
   ·simp only;rw[N];exact h.tb.str p m av
   ·simp only at a ⊢;rw[az] at a;exact h.tb.org y o a
  | false=>
   rw[hg] at G;simp only[Bool.false_eq_true,if_false] at G ⊢;refine⟨G,⟨h.tb.keys,λy=> ?_,λy d a b=> ?_,h.tb.pub,h.tb.str,h.tb.org,h.tb.src⟩,Y s.tab _ J (U _)⟩
   ·simp only;rw[h.tb.lane,qy];split
    ·rename_i e;rw[e,hl];rfl
    ·rfl
   ·obtain⟨m,c1,c2,c3⟩:=h.tb.act y d a b;by_cases e:y=x
    ·subst e;rw[hl] at c1;injection c1 with e2
     subst e2;exact⟨(qH l acc).1,by simp only;rw[qy,if_pos rfl],hg,by rw[aw];exact c3⟩
    ·exact⟨m,by simp only;rw[qy,if_neg e];exact c1,c2,c3⟩
theorem qX.ret (h:qX n s) (r:List (Og×Bool)):qX n {s with ret:=r}:=by
 obtain⟨d,aa,ab,ac,ad,ae,af,ag,ah,G,H,I,J,N,O,U,Y⟩:=h.num;exact⟨h.ow.same rfl rfl rfl rfl,h.tb.loc rfl (λ_=>rfl) (λ_=>rfl),⟨d,aa,ab,ac,ad,ae,af,ag,ah,G,H,I,J,N,O,U,Y⟩⟩
theorem qX.drain (h:qX n s) (w:Og):qX (n+1) (s.drain w):=by
 unfold RmS.drain;split
 ·obtain⟨af,au,av,aw,ax,ay,az,aA,aB,ak,al,am,an,ao,ap,aq,ar⟩:=h.num;have aC:=(vn af).1;obtain⟨d,U,Y,aa,ab,aj,ac,ad,ae,G,ah,ai,H,I,J,N,O⟩:=h.num.up;exact⟨h.ow.same rfl rfl rfl rfl,h.tb.loc rfl (λ_=>rfl) (λ_=>rfl),⟨d,U,Y,aa,ab,by simp only;omega,ac,ad,ae,G,λb ag=>by simp at ag,by simp only[List.length_nil];omega,H,I,J,N,O⟩⟩
 ·split
  ·exact(yV Wb _ s).ok h.up (qS.drainOs _ h.ow)
  ·exact(Wc s w).ok h.up (h.ow.drainL w)
theorem qX.endW (h:qX n s) (w:Og):qX (n+1) (s.endW w):=by
 unfold RmS.endW;split
 ·exact(h.drain w).ret _
 ·exact h.drain w
theorem qX.stepW (h:qX n s) (w:Og) (acc:Bool):qX (n+1) (s.stepW w acc):=by
 unfold RmS.stepW;split
 ·exact h.endW w
 ·split
  ·exact h.read
  ·split
   ·exact h.order.up
   ·split
    ·exact(h.choose w.2).up
    ·split
     ·exact(h.rewrite w.2).up
     ·exact h.write w.2 acc
theorem qX.pick (h:qX n s) (w:Og) (acc:Bool):qX (n+1) (s.pick w acc).1:=by
 unfold RmS.pick;split
 ·exact h.stepW w acc
 ·exact h.up
theorem qX.publish (h:qX n s) (p s0 s1 s2:Int) (I: ∀v∈[s0,s1,s2],0<=v/\v<=4294967295):qX (n+1) (s.publish p s0 s1 s2).1:=by
 unfold RmS.publish;split
 ·exact h.up
 ·split
  ·rename_i av;simp only;have G:=av;unfold vD at G;split at G
   ·rename_i N;split at G
    ·simp at G
    ·rename_i ap;split at G
     ·simp at G
     ·rename_i O;split at G
      ·simp at G
      ·rename_i ar;have e:(vD s.tab p s0 s1 s2).1={s.tab with o:=qw (qw (qw s.tab.o s0 (p,0)) s1 (p,1)) s2 (p,2),s:=qw (qw (qw s.tab.s (p,0) s0) (p,1) s1) (p,2) s2}:=by
        unfold vD;rw[if_pos N,if_neg ap,if_neg O,if_neg ar];rfl
       rw[e];have au: ∀k,qh s.strs (p,k)=none:=λk=>by
        cases H:qh s.strs (p,k) with
        | none=>rfl
        | some t=>
         have:=h.tb.str p k (XH (h.ow.org _ t H));rw[H] at this;exact absurd this.symm O
       have key: ∀(o:Og) {α:Type} {m:List (Og×α)} {a b c:α},(qh (qw (qw (qw m (p,0) a) (p,1) b) (p,2) c) o).isSome=((decide (o=(p,2))||(decide (o=(p,1))||decide (o=(p,0))))||(qh m o).isSome):=by
        intro o α m a b c;rw[qy,qy,qy];by_cases c2:o=(p,2)
        ·rw[if_pos c2,decide_eq_true c2];rfl
        ·rw[if_neg c2,decide_eq_false c2];by_cases c1:o=(p,1)
         ·rw[if_pos c1,decide_eq_true c1];rfl
         ·rw[if_neg c1,decide_eq_false c1];by_cases c0:o=(p,0)
          ·rw[if_pos c0,decide_eq_true c0];rfl
          ·rw[if_neg c0,decide_eq_false c0];rfl
       have J: ∀o t,qh (qw (qw (qw s.strs (p,0) (kG s.cfg)) (p,1) (kG s.cfg)) (p,2) (kG s.cfg)) o=some t->t=kG s.cfg∨qh s.strs o=some t:=by
        intro o t a;rw[qy] at a;split at a
        ·injection a with e;exact Or.inl e.symm
        ·rw[qy] at a;split at a
         ·injection a with e;exact Or.inl e.symm
         ·rw[qy] at a;split at a
          ·injection a with e;exact Or.inl e.symm
          ·exact Or.inr a
       obtain⟨U,ah,ai,aj,ak,al,am,an,ao,Y,aa,ab,ac,ad,ae,af,ag⟩:=h.num.up;refine⟨(qS.publish h.ow p N au).same rfl rfl rfl rfl,⟨h.tb.keys,h.tb.lane,h.tb.act,λx aw a b=> ?_,λp2 k H=> ?_,λx o a=> ?_,λo v a=> ?_⟩,⟨U,ah,ai,aj,ak,al,am,an,λo t a b=> ?_,λo t a=> ?_,aa,ab,ac,ad,ae,af,ag⟩⟩
       ·simp only;rw[key,h.tb.pub x aw a b,Bool.or_true]
       ·simp only;rw[key,key];by_cases e2:p2=p
        ·subst e2;have aq:k=0∨k=1∨k=2:=by
          have:=of_decide_eq_true H;omega
         rcases aq with rfl | rfl | rfl<;>simp
        ·have d: ∀j i:Int,decide ((p2,j)=(p,i))=false:=λj i=>decide_eq_false λc=>e2 (congrArg Prod.fst c)
         rw[d,d,d,d,d,d,h.tb.str p2 k H]
       ·simp only at a ⊢;rw[key];rw[qy] at a;split at a
        ·injection a with d;rw[<-d];simp
        ·rw[qy] at a;split at a
         ·injection a with d;rw[<-d];simp
         ·rw[qy] at a;split at a
          ·injection a with d;rw[<-d];simp
          ·rw[h.tb.org x o a,Bool.or_true]
       ·simp only at a;rw[qy] at a;split at a
        ·injection a with d;rw[<-d];exact I _ η
        ·rw[qy] at a;split at a
         ·injection a with d;rw[<-d];exact I _ η
         ·rw[qy] at a;split at a
          ·injection a with d;rw[<-d];exact I _ η
          ·exact h.tb.src o v a
       ·rcases J o t a with c | c
        ·rw[c] at b;cases b
        ·exact ao o t c b
       ·rcases J o t a with c | c
        ·rw[c];unfold kG;simp only;omega
        ·exact Y o t c
   ·simp at G
  ·exact h.up
theorem qX.join (h:qX n s) (x H sq st:Int):qX (n+1) (s.join x H sq st).1:=by
 unfold RmS.join;split
 ·exact h.up
 ·split
  ·rename_i aq;simp only;have G:=aq;unfold yI at G;split at G
   ·rename_i U;split at G
    ·simp at G
    ·rename_i N;have e:(yI s.tab x H).1={s.tab with u:=qw s.tab.u x (H,false,0)}:=by
      unfold yI;rw[if_pos U,if_neg N]
     rw[e];have O:qh s.tab.u x=none:=by
      cases O:qh s.tab.u x with
      | none=>rfl
      | some v=>rw[O] at N;exact absurd rfl N
     have J:qh s.lanes x=none:=by
      have:=h.tb.lane x;rw[O] at this;cases J:qh s.lanes x with
      | none=>rfl
      | some l=>rw[J] at this;cases this
     have au:=(vn h.num.cfg).1;have av:=h.num.few;obtain⟨aa,ai,aj,ak,al,am,an,ao,ap,ab,ac,ad,ae,ar,af,ag,ah⟩:=h.num.up;refine⟨(qS.join h.ow (subIds_iff.2 U) J (l:=Yp s.cfg.room.toNat s.cfg.most H sq st) (by show 1<=s.cfg.room.toNat;omega) rfl).same rfl rfl rfl rfl,⟨λy I=> ?_,λy=> ?_,λy Y a b=> ?_,λy Y a b=> ?_,h.tb.str,h.tb.org,h.tb.src⟩,⟨aa,ai,aj,ak,al,am,an,ao,ap,ab,ac,ad,ae, ?_,λy l a=> ?_,ag,ah⟩⟩
     ·simp only at I;rw[qy] at I;split at I
      ·rename_i d;rw[d];exact U
      ·exact h.tb.keys y I
     ·simp only;rw[qy,qy];split
      ·rfl
      ·exact h.tb.lane y
     ·simp only at a ⊢;rw[qy] at a;split at a
      ·injection a with d
       rw[<-d] at b;cases b
      ·rename_i d;rw[qy,if_neg d];exact h.tb.act y Y a b
     ·simp only at a;rw[qy] at a;split at a
      ·injection a with d
       rw[<-d] at b;cases b
      ·exact h.tb.pub y Y a b
     ·have:=QJ x (H,false,(0:Int)) s.tab.u;simp only;omega
     ·simp only at a;rw[qy] at a;split at a
      ·injection a with d
       subst d;simp[Yp]
      ·exact af y l a
   ·simp at G
  ·exact h.up
theorem EO (l:LnS) (k:Int):(jA l k).1.W=l.W:=by
 unfold jA
 repeat' split
 all_goals rfl
theorem qX.wantL (h:qX n s) {x:Int} {l:LnS} (d:qh s.lanes x=some l) (k:Int):qX n {s with lanes:=qw s.lanes x (jA l k).1}:=by
 obtain⟨am,an,aj,ak⟩:=Xx l k;obtain⟨H,ab,ac,ad,ae,af,ag,ah,ai,I,J,N,O,U,G,Y,aa⟩:=h.num;refine⟨qS.wantL h.ow d k,⟨h.tb.keys,λy=> ?_,λy al a b=> ?_,h.tb.pub,h.tb.str,h.tb.org,h.tb.src⟩,⟨H,ab,ac,ad,ae,af,ag,ah,ai,I,J,N,O,U,λy m a=> ?_,Y,aa⟩⟩
 ·simp only;rw[h.tb.lane,qy];split
  ·rename_i e;rw[e,d];rfl
  ·rfl
 ·obtain⟨m,c1,c2,c3⟩:=h.tb.act y al a b;simp only;rw[qy];by_cases e:y=x
  ·subst e;rw[d] at c1;injection c1 with e2
   subst e2;exact⟨_,by rw[if_pos rfl],by rw[aj];exact c2,ak c3⟩
  ·exact⟨m,by rw[if_neg e];exact c1,c2,c3⟩
 ·simp only at a;rw[qy] at a;split at a
  ·injection a with e2
   subst e2;rw[EO];exact G x l d
  ·exact G y m a
theorem qX.want (h:qX n s) (x k:Int):qX (n+1) (s.want x k).1:=by
 unfold RmS.want;split
 ·exact h.up
 ·split
  ·exact h.up
  ·split
   ·exact h.up
   ·cases hl:qh s.lanes x with
    | none=>exact h.up
    | some l=>exact(h.wantL hl k).up
theorem qX.subscribe (h:qX n s) (x p k:Int):qX (n+1) (s.subscribe x p k).1:=by
 unfold RmS.subscribe;split
 ·exact h.up
 ·split
  ·exact h.up
  ·rename_i au;split
   ·exact h.up
   ·rename_i I;split
    ·rename_i aw;cases hl:qh s.lanes x with
     | none=>exact h.up
     | some l=>
      simp only;have G:=aw;unfold vO at G;split at G
      ·rename_i Y;split at G
       ·rename_i J;split at G
        ·simp at G
        ·rename_i av;have e:(vO s.tab x p).1={s.tab with u:=qw s.tab.u x (((qh s.tab.u x).getD sb0).1,true,p)}:=by
          unfold vO;rw[if_pos Y,if_pos J,if_neg av]
         rw[e];have U:l.gone=false:=by
          unfold Xc at I;rw[hl] at I
          simpa using I
         have O:=h.wantL hl k;have aa:(jA l k).1.wanted=true/\(jA l k).1.gone=false:=by
          unfold jA;rw[if_neg au,if_neg (by rw[U];decide)];exact⟨rfl,U⟩
         obtain⟨ab,ak,al,am,an,ao,ap,aq,ar,ac,ad,ae,af,ag,ah,ai,aj⟩:=O.num.up;refine⟨O.ow.same rfl rfl rfl rfl,⟨λy H=> ?_,λy=> ?_,λy N a b=> ?_,λy N a b=> ?_,h.tb.str,h.tb.org,h.tb.src⟩,⟨ab,ak,al,am,an,ao,ap,aq,ar,ac,ad,ae,af, ?_,ah,ai,aj⟩⟩
         ·simp only at H;rw[qy] at H;split at H
          ·rename_i d;rw[d];exact Y.1
          ·exact h.tb.keys y H
         ·simp only;rw[qy,qy];split
          ·rfl
          ·exact h.tb.lane y
         ·simp only at a ⊢;rw[qy] at a ⊢;split at a
          ·rename_i d;rw[if_pos d];exact⟨_,rfl,aa.2,aa.1⟩
          ·rename_i d;rw[if_neg d];exact h.tb.act y N a b
         ·simp only at a ⊢;rw[qy] at a;split at a
          ·injection a with d
           rw[<-d];exact J.2
          ·exact h.tb.pub y N a b
         ·simp only;rw[vM _ J.1];exact ag
       ·simp at G
      ·simp at G
    ·exact h.up
theorem ZW {K V:Type} [DecidableEq K] (k:K): ∀(m:List (K×V)),(yK m k).length<=m.length
 | []=>by simp[yK]
 | (a,b)::l=>by
  unfold yK;split
  ·simp
  ·have:=ZW k l;simp only[List.length_cons];omega
theorem qX.leave (h:qX n s) (H:(s.tab.u.map Prod.fst).Nodup) (x:Int):qX (n+1) (s.leave x).1:=by
 unfold RmS.leave;split
 ·exact h.up
 ·split
  ·rename_i ao;simp only;have G:=ao;unfold yb at G;split at G
   ·rename_i an;split at G
    ·rename_i am;have e:(yb s.tab x).1={s.tab with u:=yK s.tab.u x}:=by
      unfold yb;rw[if_pos an,if_pos am]
     rw[e];have aq:=h.num.few;obtain⟨N,ae,af,ag,ah,ai,aj,ak,al,O,U,Y,aa,ap,ab,ac,ad⟩:=h.num.up;refine⟨(qS.leave h.ow x).same rfl rfl rfl rfl,⟨λy d=> ?_,λy=> ?_,λy I a b=> ?_,λy I a b=> ?_,h.tb.str,h.tb.org,h.tb.src⟩,⟨N,ae,af,ag,ah,ai,aj,ak,al,O,U,Y,aa, ?_,λy l a=> ?_, ?_,ad⟩⟩
     ·simp only at d;rw[gK H] at d;split at d
      ·cases d
      ·exact h.tb.keys y d
     ·simp only;rw[gK H,kM];split
      ·rfl
      ·exact h.tb.lane y
     ·simp only at a ⊢;rw[gK H] at a;split at a
      ·cases a
      ·rename_i J;rw[kM,if_neg J];exact h.tb.act y I a b
     ·simp only at a;rw[gK H] at a;split at a
      ·cases a
      ·exact h.tb.pub y I a b
     ·have:=ZW x s.tab.u;simp only;omega
     ·simp only at a;rw[kM] at a;split at a
      ·cases a
      ·exact ab y l a
     ·simp only;rw[show ∀(m:Bk) a f,(vQ m a f).length=m.length from λm a f=>by simp[vQ]];exact ac
    ·simp at G
   ·simp at G
  ·exact h.up
theorem qX.arrive (h:qX n s) {b:List Int} (ah:Byt b) (ai:b.length<=400):qX (n+1) (s.arrive b).1:=by
 have d:=(vn h.num.cfg).1;have am:=h.num.fit;have al:=h.num.lost;obtain⟨G,aa,ab,ac,ad,aj,ae,af,ag,H,I,ak,J,N,O,U,Y⟩:=h.num.up;unfold RmS.arrive;split
 ·exact h.up
 ·split
  ·refine⟨h.ow.same rfl rfl rfl rfl,h.tb.loc rfl (λ_=>rfl) (λ_=>rfl),⟨G,aa,ab,ac,ad,aj,ae,af,ag,H,λc d=> ?_, ?_,J,N,O,U,Y⟩⟩
   ·rcases List.mem_append.1 d with d | d
    ·exact I c d
    ·rw[List.mem_singleton] at d;rw[d];exact⟨ah,ai⟩
   ·simp only[List.length_append,List.length_cons,List.length_nil];omega
  ·refine⟨h.ow.same rfl rfl rfl rfl,h.tb.loc rfl (λ_=>rfl) (λ_=>rfl),⟨G,aa,ab,ac,ad,by simp only;omega,ae,af,ag,H,λc d=> ?_, ?_,J,N,O,U,Y⟩⟩
   ·rcases List.mem_append.1 d with d | d
    ·exact I c (List.mem_of_mem_tail d)
    ·rw[List.mem_singleton] at d;rw[d];exact⟨ah,ai⟩
   ·simp only[List.length_append,List.length_cons,List.length_nil,List.length_tail];omega
theorem qX.shut (h:qX n s):qX (n+1) s.shut.1:=by
 unfold RmS.shut;split
 ·exact h.up
 ·obtain⟨d,aa,ab,ac,ad,ae,af,ag,ah,G,H,I,J,N,O,U,Y⟩:=h.num.up;exact⟨h.ow.same rfl rfl rfl rfl,h.tb.loc rfl (λ_=>rfl) (λ_=>rfl),⟨d,aa,ab,ac,ad,ae,af,ag,ah,G,H,I,J,N,O,U,Y⟩⟩
theorem Gj {c:CfR} (d:zR c=true):qX 0 (wu c):=by
 have h:=(vn d).1
 refine⟨⟨λo t a=>(by cases a),λo t a=>(by cases a),λo t H t' a=>(by cases a),λo t a=>(by cases a),λx l a=>(by cases a),λx l a=>(by cases a),λx i a=>(by cases a),λx i v a=>(by cases a)⟩,
  ⟨λx a=>(by cases a),λx=>rfl,λx G a=>(by cases a),λx G a=>(by cases a),λp k _=>rfl,λx o a=>(by cases a),λo v a=>(by cases a)⟩,
  ⟨d,by simp[wu],by simp[wu],by simp[wu],rfl,by simp[wu],by simp[wu],by simp[wu],λo t a=>(by cases a),λo t a=>(by cases a),λb a=>(by cases a),by simp only[wu,List.length_nil];omega,λa b=>(by cases b),by simp[wu],λx l a=>(by cases a),by simp[wu],by simp[wu]⟩⟩
end
section
variable {s s':RmS} {n:Nat}
def RmS.heldL (s:RmS):List Int:=s.origins.flatMap λo=>match qh s.strs o with
 | some t=>thJ t.buf.holds
 | none=>[]
theorem CJ (s:RmS):s.heldL.length=s.held:=by
 unfold RmS.heldL RmS.held;rw[List.length_flatMap]
 congr 1
 refine List.map_congr_left λo _=> ?_
 cases qh s.strs o with
 | none=>rfl
 | some t=>simp[thJ]
theorem mem_workers {s:RmS} {w:Og}:w∈s.workers↔w=(0,0)∨w=(1,0)∨((w.1=2∨w.1=3∨w.1=4)/\w.2∈subIds/\(qh s.lanes w.2).isSome=true):=by
 unfold RmS.workers yt RmS.there;obtain⟨a,b⟩:=w;simp only[List.mem_cons,List.mem_flatMap,List.mem_filter,decide_eq_true_eq,List.not_mem_nil,or_false,Prod.mk.injEq];constructor
 ·rintro(h | h | ⟨x,⟨d,H,G⟩,I⟩)
  ·exact Or.inl h
  ·exact Or.inr (Or.inl h)
  ·rcases I with ⟨rfl,rfl⟩ | ⟨rfl,rfl⟩ | ⟨rfl,rfl⟩
   ·exact Or.inr (Or.inr ⟨Or.inl rfl,d,G⟩)
   ·exact Or.inr (Or.inr ⟨Or.inr (Or.inl rfl),d,G⟩)
   ·exact Or.inr (Or.inr ⟨Or.inr (Or.inr rfl),d,G⟩)
 ·rintro(h | h | ⟨d,H,G⟩)
  ·exact Or.inl h
  ·exact Or.inr (Or.inl h)
  ·refine Or.inr (Or.inr ⟨b,⟨H,H,G⟩, ?_⟩);rcases d with rfl | rfl | rfl
   ·exact Or.inl ⟨rfl,rfl⟩
   ·exact Or.inr (Or.inl ⟨rfl,rfl⟩)
   ·exact Or.inr (Or.inr ⟨rfl,rfl⟩)
theorem Qd (h: ∀x,(qh s'.lanes x).isSome=(qh s.lanes x).isSome):s'.workers=s.workers:=by
 unfold RmS.workers RmS.there;rw[List.filter_congr (λx _=>h x)]
end
def RmS.picks (s:RmS) (acc:Bool) (L:List Og):RmS:=L.foldl (λs w=>(s.pick w acc).1) s
theorem UR (s:RmS) (acc:Bool) (v:Og) (L:List Og):s.picks acc (v::L)=(s.pick v acc).1.picks acc L:=rfl
section
variable {S V:Type} {step:S->V->S} {Inv:S->Prop} {f:S->Nat} {P:S->V->Prop}
theorem WN (hi: ∀s v,Inv s->Inv (step s v)) (J: ∀s v,Inv s->f (step s v)<=f s) (I: ∀s v u,Inv s->P s u->f (step s v)<f s∨P (step s v) u) (H: ∀s v,Inv s->P s v->f (step s v)<f s):
  ∀(L:List V) (s:S),Inv s->Inv (L.foldl step s)/\f (L.foldl step s)<=f s/\ ∀u∈L,P s u->f (L.foldl step s)<f s
 | [],s,h=>⟨h,Nat.le_refl _,λu G=>by cases G⟩
 | v::L,s,h=>by
  rw[List.foldl_cons];obtain⟨a,b,c⟩:=WN hi J I H L (step s v) (hi s v h);have O:=J s v h;refine⟨a,τ,λu G N=> ?_⟩;by_cases e:u=v
  ·have:=H s v h (by rw[<-e];exact N);omega
  ·rcases I s v u h N with d | d
   ·omega
   ·have:=c u ((List.mem_cons.1 G).resolve_left e) d;omega
theorem uv (hi: ∀s v,Inv s->Inv (step s v)) (N: ∀s v,Inv s->f (step s v)<=f s) (J: ∀s v u,Inv s->P s u->f (step s v)<f s∨P (step s v) u) (H: ∀s v,Inv s->P s v->f (step s v)<f s)
  (G:List V) (I: ∀s,Inv s->0<f s-> ∃u∈G,P s u):
  ∀(d:List (List V)) (s:S),Inv s->(∀L∈d,∀u∈G,u∈L)->Inv (d.flatten.foldl step s)/\f (d.flatten.foldl step s)<=f s-d.length
 | [],s,h,_=>⟨h,Nat.le_refl _⟩
 | L::d,s,h,hL=>by
  rw[List.flatten_cons,List.foldl_append];obtain⟨a,b,c⟩:=WN hi N J H L s h;obtain⟨O,e⟩:=uv hi N J H G I d (L.foldl step s) a λM U=>hL M (List.mem_cons_of_mem _ U)
  refine⟨O, ?_⟩;rw[List.length_cons];by_cases z:0<f s
  ·obtain⟨u,aa,Y⟩:=I s h z;have:=c u (hL L List.mem_cons_self u aa) Y;omega
  ·omega
end
theorem ZZ {s s':RmS} (k:Loc s s') (x:Int):(qh s'.lanes x).isSome=(qh s.lanes x).isSome:=vz (k.lanes x)
structure OpP (s s':RmS):Prop where
 closed:s'.closed=s.closed
 there: ∀x,(qh s'.lanes x).isSome=(qh s.lanes x).isSome
 cfg:s'.cfg=s.cfg
 clock:s'.clock=s.clock
theorem OpP.loc {s s':RmS} (k:Loc s s'):OpP s s':=⟨k.closed,ZZ k,k.cfg,k.clock⟩
theorem OpP.workers {s s':RmS} (k:OpP s s'):s'.workers=s.workers:=Qd k.there
theorem BJ (s:RmS):OpP s s.read/\s.read.queue=s.queue.tail:=by
 unfold RmS.read;cases hq:s.queue with
 | nil=>exact⟨⟨rfl,λ_=>rfl,rfl,rfl⟩,hq⟩
 | cons b q=>
  simp only;split
  ·unfold RmS.tell;split
   ·have k:=QB (xH (zi b).1) {{s with queue:=q} with cnt:={s.cnt with told:=s.cnt.told+1}};exact⟨⟨k.closed,λx=>ZZ k x,k.cfg,k.clock⟩,k.queue⟩
   ·exact⟨⟨rfl,λ_=>rfl,rfl,rfl⟩,rfl⟩
  ·unfold RmS.media;split
   ·cases qh ({s with queue:=q}:RmS).tab.o (xk b).1.sc with
    | none=>exact⟨⟨rfl,λ_=>rfl,rfl,rfl⟩,rfl⟩
    | some o=>
     simp only;unfold RmS.accept;cases qh ({s with queue:=q}:RmS).strs o with
     | none=>exact⟨⟨rfl,λ_=>rfl,rfl,rfl⟩,rfl⟩
     | some t=>exact⟨⟨rfl,λ_=>rfl,rfl,rfl⟩,rfl⟩
   ·exact⟨⟨rfl,λ_=>rfl,rfl,rfl⟩,rfl⟩
theorem ku (s:RmS) (x:Int) (acc:Bool):OpP s (s.write x acc)/\(s.write x acc).queue=s.queue:=by
 unfold RmS.write;cases hl:qh s.lanes x with
 | none=>exact⟨⟨rfl,λ_=>rfl,rfl,rfl⟩,rfl⟩
 | some l=>
  refine⟨⟨rfl,λy=> ?_,rfl,rfl⟩,rfl⟩;simp only;rw[qy];split
  ·rename_i e;rw[e,hl];rfl
  ·rfl
theorem Bn {s:RmS} (d:s.closed=false) (w:Og) (acc:Bool):OpP s (s.stepW w acc)/\(s.stepW w acc).queue=if w.1=0 then s.queue.tail else s.queue:=by
 unfold RmS.stepW;rw[if_neg (by rw[d];decide)];split
 ·exact BJ s
 ·split
  ·exact⟨OpP.loc (yT s),(yT s).queue⟩
  ·split
   ·exact⟨OpP.loc (zO s _),(zO s _).queue⟩
   ·split
    ·exact⟨OpP.loc (zm s _),(zm s _).queue⟩
    ·exact ku s _ _
theorem ye {s:RmS} (G:s.closed=false) (w:Og) (acc:Bool):OpP s (s.pick w acc).1/\((s.pick w acc).1.queue=s.queue∨(s.pick w acc).1.queue=s.queue.tail)/\(w=(0,0)->(s.pick w acc).1.queue=s.queue.tail):=by
 unfold RmS.pick;split
 ·rename_i H;obtain⟨a,b⟩:=Bn G w acc;refine⟨a, ?_,λe=> ?_⟩
  ·rw[b];split
   ·exact Or.inr rfl
   ·exact Or.inl rfl
  ·rw[b,e];rfl
 ·rename_i H;refine⟨⟨rfl,λ_=>rfl,rfl,rfl⟩,Or.inl rfl,λe=> ?_⟩
  have: ¬(0<s.queue.length):=λd=>H (by
   unfold RmS.may;rw[if_neg (by rw[G];decide),e];have:((0,0):Og)∈s.workers:=mem_workers.2 (Or.inl rfl);rw[decide_eq_true this];unfold RmS.mayOpen
   simp[d])
  cases d:s.queue with
  | nil=>rfl
  | cons b q=>rw[d] at this;simp at this
theorem Uq {s:RmS} (J:s.closed=false) (acc:Bool) (d:List (List Og)) (I: ∀L∈d,((0,0):Og)∈L):
  (s.picks acc d.flatten).closed=false/\(s.picks acc d.flatten).workers=s.workers/\(s.picks acc d.flatten).queue.length<=s.queue.length-d.length:=by
 obtain⟨a,b⟩:=uv (step:=λs w=>(RmS.pick s w acc).1) (Inv:=λt=>t.closed=false/\t.workers=s.workers) (f:=λt=>t.queue.length) (P:=λt v=>v=(0,0)/\0<t.queue.length)
  (λt v h=>⟨(ye h.1 v acc).1.closed.trans h.1,(ye h.1 v acc).1.workers.trans h.2⟩)
  (λt v h=>by
   rcases(ye h.1 v acc).2.1 with e | e<;>rw[e]
   ·exact Nat.le_refl _
   ·rw[List.length_tail];omega)
  (λt v u h G=>by
   rcases(ye h.1 v acc).2.1 with e | e
   ·exact Or.inr ⟨G.1,by rw[e];exact G.2⟩
   ·refine Or.inl ?_;rw[e,List.length_tail]
    omega)
  (λt v h G=>by
   rw[(ye h.1 v acc).2.2 G.1,List.length_tail]
   omega)
  [(0,0)] (λt h O=>⟨(0,0),List.mem_singleton.2 rfl,rfl,O⟩) d s ⟨J,rfl⟩ (λL N u H=>by rw[List.mem_singleton] at H;rw[H];exact I L N)
 exact⟨a.1,a.2,b⟩
structure A22 where
 act:Int
 sub:Int
 pub:Int
 layer:Int
 b:List Int
 w:Og
 acc:Bool
 own:Int
 stamp:Int
 seq:Int
 s0:Int
 s1:Int
 s2:Int
def doR (s:RmS) (a:A22):RmS×Int×Bool:=
 if a.act=0 then ((s.arrive a.b).1,(s.arrive a.b).2,false) else if a.act=1 then ((s.pick a.w a.acc).1,0,(s.pick a.w a.acc).2) else if a.act=2 then (s.tick.1,s.tick.2,false)
 else if a.act=3 then ((s.publish a.pub a.s0 a.s1 a.s2).1,(s.publish a.pub a.s0 a.s1 a.s2).2,false) else if a.act=4 then ((s.join a.sub a.own a.seq a.stamp).1,(s.join a.sub a.own a.seq a.stamp).2,false)
 else if a.act=5 then ((s.subscribe a.sub a.pub a.layer).1,(s.subscribe a.sub a.pub a.layer).2,false) else if a.act=6 then ((s.want a.sub a.layer).1,(s.want a.sub a.layer).2,false)
 else if a.act=7 then ((s.leave a.sub).1,(s.leave a.sub).2,false) else if a.act=8 then (s.shut.1,s.shut.2,false) else (s,0,false)
section
variable {s s':RmS} {n:Nat}
theorem Lr (h:qX n s) (I:(s.tab.u.map Prod.fst).Nodup) (a:A22) (d:Byt a.b) (G:a.b.length<=400) (H: ∀v∈[a.s0,a.s1,a.s2],0<=v/\v<=4294967295):qX (n+1) (doR s a).1:=by
 unfold doR;split
 ·exact h.arrive d G
 ·split
  ·exact h.pick _ _
  ·split
   ·exact h.tick
   ·split
    ·exact h.publish _ _ _ _ H
    ·split
     ·exact h.join _ _ _ _
     ·split
      ·exact h.subscribe _ _ _
      ·split
       ·exact h.want _ _
       ·split
        ·exact h.leave I _
        ·split
         ·exact h.shut
         ·exact h.up
theorem Vt (s:RmS) (o:Og):(s.tick1 o).ret=s.ret/\(s.tick1 o).closed=s.closed:=by
 unfold RmS.tick1;cases qh s.strs o with
 | none=>exact⟨rfl,rfl⟩
 | some t=>simp only;split<;>exact⟨rfl,rfl⟩
theorem Xg: ∀(L:List Og) (s:RmS),(L.foldl RmS.tick1 s).ret=s.ret/\(L.foldl RmS.tick1 s).closed=s.closed
 | [],_=>⟨rfl,rfl⟩
 | o::L,s=>by
  rw[List.foldl_cons];exact⟨(Xg L _).1.trans (Vt s o).1,(Xg L _).2.trans (Vt s o).2⟩
theorem CT (a:A22) (d:a.act=1):doR s a=((s.pick a.w a.acc).1,0,(s.pick a.w a.acc).2):=by
 unfold doR;rw[if_neg τ,if_pos d]
end
structure LnK (R:Nat) (l:LnS):Prop where
 room:l.room=R
 one:1<=R
 A:l.A.length<=R
 B:l.B.length<=R
 C:l.C.length<=R
theorem LnK.put {R:Nat} {l:LnS} (h:LnK R l) (x:ItS):LnK R (jL l x).1:=by
 obtain⟨d,G,J,H,I⟩:=h;rcases Fi l x with ⟨e,_⟩ | ⟨_,_,_,_,_,e,_⟩
 ·rw[e];exact⟨d,G,J,H,I⟩
 ·rw[e];refine⟨d,G, ?_,H,I⟩;simp only;split
  ·rw[List.length_append,List.length_singleton];omega
  ·rw[List.length_append,List.length_singleton,List.length_tail];omega
theorem LnK.choose {R:Nat} {l:LnS} (h:LnK R l):LnK R (qN l).1:=by
 obtain⟨d,G,H,I,J⟩:=h;rcases zP (s:=l) with ⟨_,e⟩ | ⟨_,x,A,N,O,e⟩
 ·rw[e];exact⟨d,G,H,I,J⟩
 ·rw[e];rw[N,List.length_cons] at H;refine⟨d,G,by simp only;omega, ?_,J⟩;simp only;split
  ·rw[List.length_append,List.length_singleton];omega
  ·exact I
theorem LnK.rewrite {R:Nat} {l:LnS} (h:LnK R l):LnK R (qL l).1:=by
 obtain⟨d,G,H,I,J⟩:=h;rcases zU (s:=l) with ⟨_,e⟩ | ⟨x,f,B,N,e⟩
 ·rw[e];exact⟨d,G,H,I,J⟩
 ·rw[e];rw[N,List.length_cons] at I;refine⟨d,G,H,by simp only;omega, ?_⟩;simp only;split
  ·rw[List.length_append,List.length_singleton];omega
  ·rw[List.length_append,List.length_singleton,List.length_tail];omega
theorem LnK.write {R:Nat} {l:LnS} (h:LnK R l) (acc:Bool):LnK R (qH l acc).1:=by
 obtain⟨d,G,I,J,H⟩:=h;rcases yr (s:=l) acc with ⟨_,e⟩ | ⟨o,C,N,⟨_,e⟩ | ⟨_,_,_,e⟩⟩
 ·rw[e];exact⟨d,G,I,J,H⟩
 ·rw[e];rw[N,List.length_cons] at H;refine⟨d,G,I,J, ?_⟩;simp only;split
  ·omega
  ·rw[List.length_cons];exact H
 ·rw[e];exact⟨d,G,Nat.zero_le _,Nat.zero_le _,Nat.zero_le _⟩
theorem LnK.want {R:Nat} {l:LnS} (h:LnK R l) (n:Int):LnK R (jA l n).1:=by
 rcases Bf (s:=l) n with e | ⟨_,e⟩<;>rw[e]
 ·exact h
 ·exact⟨h.room,h.one,h.A,h.B,h.C⟩
theorem LnK.drain {R:Nat} {l:LnS} (h:LnK R l) (n:Int):LnK R (vU l n):=by
 obtain⟨d,G,H,I,J⟩:=h;unfold vU;refine⟨d,G, ?_, ?_, ?_⟩<;>simp only<;>first | omega | (split<;>first | exact Nat.zero_le _ | assumption)
def LkL (R:Nat) (L:List (Int×LnS)):Prop:= ∀x l,qh L x=some l->LnK R l
theorem LkL.put {R:Nat} {L:List (Int×LnS)} (h:LkL R L) (x:Int) {l:LnS} (G:LnK R l):LkL R (qw L x l):=λy m d=>by
 rw[qy] at d;split at d
 ·injection d with e;rw[<-e];exact G
 ·exact h y m d
section
variable {R:Nat} {s:RmS}
theorem uT {α:Type} {f:RmS->α->RmS} (d: ∀s x,LkL R s.lanes->LkL R (f s x).lanes): ∀(L:List α) (s:RmS),LkL R s.lanes->LkL R (L.foldl f s).lanes
 | [],s,h=>h
 | x::L,s,h=>uT d L (f s x) (d s x h)
theorem Dt (h:LkL R s.lanes) (x:Int):LkL R (s.choose x).lanes:=by
 unfold RmS.choose;cases hl:qh s.lanes x with
 | none=>exact h
 | some l=>exact h.put x (h x l hl).choose
theorem UE (h:LkL R s.lanes) (x:Int):LkL R (s.rewrite x).lanes:=by
 unfold RmS.rewrite;cases hl:qh s.lanes x with
 | none=>exact h
 | some l=>exact h.put x (h x l hl).rewrite
theorem AV (h:LkL R s.lanes) (x:Int) (acc:Bool):LkL R (s.write x acc).lanes:=by
 unfold RmS.write;cases hl:qh s.lanes x with
 | none=>exact h
 | some l=>exact h.put x ((h x l hl).write acc)
theorem Fj (d:ItS) (s:RmS) (x:Int) (h:LkL R s.lanes):LkL R (s.put1 d x).lanes:=by
 unfold RmS.put1;split
 ·cases hl:qh s.lanes x with
  | none=>exact h
  | some l=>
   simp only;split<;>exact h.put x ((h x l hl).put d)
 ·exact h
theorem Ck (h:LkL R s.lanes):LkL R s.order.lanes:=by
 unfold RmS.order;cases s.ready with
 | none=>exact h
 | some o=>
  simp only;cases qh s.strs o with
  | none=>exact h
  | some t=>
   simp only;unfold RmS.orderAt;exact uT (λs x=>Fj _ s x) subIds _ h
theorem Ff (h:LkL R s.lanes):LkL R s.read.lanes:=by
 unfold RmS.read;cases hq:s.queue with
 | nil=>exact h
 | cons b q=>
  simp only;split
  ·unfold RmS.tell;split
   ·exact uT (f:=RmS.tellS) (λs d h=>uT (f:=RmS.tell1) (λs x h=>by
     unfold RmS.tell1
     repeat' split
     all_goals exact h) _ s h) _ _ h
   ·exact h
  ·unfold RmS.media;split
   ·cases qh ({s with queue:=q}:RmS).tab.o (xk b).1.sc with
    | none=>exact h
    | some o=>
     simp only;unfold RmS.accept;cases qh ({s with queue:=q}:RmS).strs o with
     | none=>exact h
     | some t=>exact h
   ·exact h
theorem Ka (h:LkL R s.lanes) (w:Og):LkL R (s.drain w).lanes:=by
 unfold RmS.drain;split
 ·exact h
 ·split
  ·exact uT (λs o h=>by
    unfold RmS.drainO;cases qh s.strs o with
    | none=>exact h
    | some t=>exact uT (f:=RmS.drain1) (λs i h=>h) _ _ h) _ _ h
  ·unfold RmS.drainL;cases hl:qh s.lanes w.2 with
   | none=>exact h
   | some l=>exact h.put w.2 ((h w.2 l hl).drain _)
theorem ET (h:LkL R s.lanes) (w:Og) (acc:Bool):LkL R (s.stepW w acc).lanes:=by
 unfold RmS.stepW;split
 ·unfold RmS.endW;split
  ·exact Ka h w
  ·exact Ka h w
 ·split
  ·exact Ff h
  ·split
   ·exact Ck h
   ·split
    ·exact Dt h _
    ·split
     ·exact UE h _
     ·exact AV h _ _
theorem Gd (h:LkL R s.lanes) (w:Og) (acc:Bool):LkL R (s.pick w acc).1.lanes:=by
 unfold RmS.pick;split
 ·exact ET h w acc
 ·exact h
end
section
open _root_.Go.Proofs.Tryz
section
variable {T:Nat->Tg} {w0 w w':World} {k:RmK} {vp vr:Value} {s:RmS} {F:List Nat}
theorem Nr (H:qF w0 w k s F):Calls prog 28 #[γ k.R] w λe w'=>e= .returned (ι s.shut.2)/\qF w0 w' k s.shut.1 F/\qt F w w':=by
 have J:=κ H;obtain⟨vp,ab,d⟩:=H.blk;have U:=β7 d;have aa:=qd d 7;obtain⟨Y,I⟩:=ν (s.closed);rw[I] at U;have O:=κ I;clear I H d;cases Y with
 | true=>
  have G:Hid (s.shut=(s,7)):=κ (by unfold RmS.shut;rw[if_pos O.o]);rw[G.o]
  go_enter func28,ntmps28
  go_wp2;go_ret;exact⟨rfl,J.o,qt.refl _ _⟩
 | false=>
  have G:Hid (s.shut=({s with closed:=true},0)):=κ (by unfold RmS.shut;rw[if_neg (by rw[O.o];decide)]);have N:=κ (J.o.cell 7 (μ true) (s':={s with closed:=true}) (λ_ _=>rfl) ⟨rfl,rfl,rfl,rfl,rfl,rfl,rfl,rfl,rfl⟩);rw[G.o]
  go_enter func28,ntmps28
  go_wp2;go_ret;exact⟨rfl,N.o.1,N.o.2⟩
theorem Er {B b:Nat} {m:Bk} (h:ju w B b m) (sub:Int) (J:m.length<=1000000):
  Calls prog 25 #[θ #[γ B],ι sub] w λe w'=>(∃v,e= .returned v/\SlI .i64 w' v (xL m sub))/\qa w w':=by
 have G:=κ (Ym (h.more (qa.alloc w (.cells #[γ B] 86))) sub J);clear h
 go_enter func25,ntmps25
 go_wp2_with (go_at_call 70;(go_call G.o as e w1 ⟨⟨v,rfl,s1,_⟩,d⟩;have I:=κ s1;have H:=κ d;clear s1 d))
 go_ret;exact⟨⟨_,rfl,I.o⟩,(qa.alloc _ _).trans H.o⟩
theorem RmX.laneDel (h:RmX T w0 w k vp vr s F) {x:Int} (m:jh w' k.ML (Value.int .i64) gm (yK k.LA x)) (a:qg (λb=>b=k.ML) w w'):
  qF w0 w' {k with LA:=yK k.LA x} {s with lanes:=Ys s.lanes x} F/\qt F w w':=by
 obtain⟨d,J⟩:=h.all .lns;have I:=J.keys;have H:=h.fresh;obtain⟨y,z⟩:=h.own (t:= .lns) (k':={k with LA:=yK k.LA x}) (vp':=vp) (vr':=vr) (s':={s with lanes:=Ys s.lanes x}) ⟨η,η⟩ (a.mono λb G=>by rw[G];exact d) ⟨(qZ H η _).2 (Or.inl d),m⟩
  (λu N U y=>by
   cases u<;>first | exact y | exact absurd rfl N | skip
   rename_i O;unfold RmK.Holds at y ⊢;simp only;rw[gK I,kM];by_cases e:O=x
   ·rw[if_pos e,if_pos e];exact⟨λp l c=>(by cases c),rfl⟩
   ·rw[if_neg e,if_neg e]
    exact y)
 exact⟨y.at,z⟩
theorem KS {t:TS} (h:RmX T w0 w k vp vr s F) (b:jo w' k.tb k.ta k.tc k.td t) (a:qg (λx=>x=k.td) w w'):qF w0 w' k {s with tab:=t} F/\qt F w w':=
 h.table b (a.mono λ_ e=>Or.inr (Or.inr e))
theorem LK (ar:qF w0 w k s F) (aj:s.book.length<=900000) (x:Int):
  Calls prog 47 #[γ k.R,ι x] w λe w'=> ∃k',k'.R=k.R/\e= .returned (ι (s.leave x).2)/\qF w0 w' k' (s.leave x).1 F/\qt F w w':=by
 obtain⟨T,vp,aC,aa⟩:=ar;have Y:=κ aa;have ap:=β7 aa.blk;have ay:=β11 aa.blk;obtain⟨aq,ae⟩:=ν (s.closed);rw[ae] at ap;have ab:=κ ae;have an:=κ aj;clear ae aa aj;cases aq with
 | true=>
  have H:Hid (s.leave x=(s,7)):=κ (by unfold RmS.leave;rw[if_pos ab.o]);rw[H.o]
  go_enter func47,ntmps47
  go_wp2;go_ret;exact⟨k,rfl,rfl,Y.o.at,qt.refl _ _⟩
 | false=>
  have U:=κ (Ha Y.o.tab x);obtain⟨ac,d⟩:=ν ((yb s.tab x).2);obtain⟨am,N⟩:=ν ((yb s.tab x).1);rw[d,N] at U;by_cases e0:ac=0
  ·subst e0;have H:Hid (s.leave x=({s with tab:=am,book:=vQ s.book x 7,lanes:=Ys s.lanes x},0)):=κ (by unfold RmS.leave;rw[if_neg (by rw[ab.o];decide),if_pos d,N]);rw[H.o];clear d N
   go_enter func47,ntmps47
   go_wp2_with (first | (go_at_call 106;(go_call U.o as e w1 ⟨rfl,J,I⟩;have G:=κ (KS Y.o J I);obtain⟨_,_,af⟩:=G.o.1.blk;have ax:=β0 af;clear J I af)) | (go_at_call 107;(go_call Mh G.o.1 x (by have:=an.o;show s.book.length<=1000000;omega) as e w2 ⟨⟨aA,rfl⟩,ad,t2,_⟩;obtain⟨ah,aB,aD,O⟩:=ad;have av:=κ O;have ah:=κ t2;have az:=β12 O.blk;obtain⟨w9,al,ak,ai,_⟩:=O.lnm.drop kJ underlying90 x 0;have al: ∀ty,(Builtin.delete_ #[90,3] ty #[.map (some k.ML),ι x]).run prog w2= .ok (.tuple #[]) w9:=λ_=>al;have ag:=κ (O.laneDel ak ai);clear ak ai O t2)))
   go_ret;exact⟨{k with LA:=yK k.LA x},rfl,rfl,ag.o.1,G.o.2.trans (ah.o.trans ag.o.2)⟩
  ·have aw:(ac != 0)=true:=by simp[e0]
   have H:Hid (s.leave x=(s,ac)):=κ (by unfold RmS.leave;rw[if_neg (by rw[ab.o];decide),d,if_neg e0])
   have ao:Hid (am=s.tab):=κ (by
    rw[<-N];unfold yb at d ⊢;split
    ·rename_i au;rw[if_pos au] at d;split
     ·rename_i ad;rw[if_pos ad] at d;exact absurd d.symm e0
     ·rfl
    ·rfl)
   rw[ao.o] at U;rw[H.o];clear d N e0
   go_enter func47,ntmps47
   go_wp2_with (go_at_call 106;(go_call U.o as e w1 ⟨rfl,J,I⟩;have G:=κ (KS Y.o J I);clear J I))
   go_ret;exact⟨k,rfl,rfl,G.o.1,G.o.2⟩
end
end
section
open _root_.Go.Proofs.Tryz
section
variable {T:Nat->Tg} {w0 w w':World} {k:RmK} {vp vr:Value} {s:RmS} {F:List Nat}
theorem AI (h:RmX T w0 w k vp vr s F) {x:Int} {l:LnS} {p:Nat} (d:qh s.lanes x=some l) (G:qh k.LA x=some p) (n:Int):
  Calls prog 91 #[γ p,ι n] w λe w'=>e= .returned (ι (jA l n).2)/\qF w0 w' k {s with lanes:=qw s.lanes x (jA l n).1} F/\qt F w w':=by
 obtain⟨p2,H,I⟩:=h.laneAt d;obtain rfl:p2=p:=by rw[G] at H;injection H with e;exact e.symm
 refine(EN I n).mono ?_;rintro e w' ⟨rfl,b,a⟩;exact⟨rfl,h.lanePut d G b a⟩
theorem Nn (au:qF w0 w k s F) (aj:xZ s) (x n:Int):
  Calls prog 36 #[γ k.R,ι x,ι n] w λe w'=>e= .returned (ι (s.want x n).2)/\qF w0 w' k (s.want x n).1 F/\qt F w w':=by
 obtain⟨T,vp,aA,ab⟩:=au;have d:=κ ab;have am:=κ aj;have aq:=β7 ab.blk;have ax:=β11 ab.blk;obtain⟨ar,ac⟩:=ν (s.closed);rw[ac] at aq;have ag:=κ ac;clear ac ab aj;cases ar with
 | true=>
  have G:Hid (s.want x n=(s,7)):=κ (by unfold RmS.want;rw[if_pos ag.o]);rw[G.o]
  go_enter func36,ntmps36
  go_wp2;go_ret;exact⟨rfl,d.o.at,qt.refl _ _⟩
 | false=>
  have I:Hid (s.want x n=if (decide (0<=x/\x<6)&&jc n)=false then (s,1) else if ((qh s.tab.u x).getD sb0).2.1=false then (s,5) else (match qh s.lanes x with
   | none=>(s,0)
   | some l=>({s with lanes:=qw s.lanes x (jA l n).1},(jA l n).2))):=κ (by unfold RmS.want;rw[if_neg (by rw[ag.o];decide)];rfl)
  obtain⟨aw,af⟩:=ν (jc n);have Y:=κ (λw=>Ui n w);rw[af] at Y I;by_cases h1:x<0
  ·have G:Hid (s.want x n=(s,1)):=κ (by rw[I.o,decide_eq_false τ,if_pos (by rfl)]);rw[G.o]
   go_enter func36,ntmps36
   go_wp2;go_ret;exact⟨rfl,d.o.at,qt.refl _ _⟩
  ·by_cases h2:x<6
   ·cases aw with
    | false=>
     have G:Hid (s.want x n=(s,1)):=κ (by rw[I.o,Bool.and_false,if_pos rfl]);rw[G.o];clear af
     go_enter func36,ntmps36
     go_wp2_with (go_at_call 89;(go_call Y.o _ as e w1 ⟨rfl,N⟩;obtain rfl:=N))
     go_ret;exact⟨rfl,d.o.at,qt.refl _ _⟩
    | true=>
     have O:Hid (s.want x n=if ((qh s.tab.u x).getD sb0).2.1=false then (s,5) else (match qh s.lanes x with
      | none=>(s,0)
      | some l=>({s with lanes:=qw s.lanes x (jA l n).1},(jA l n).2))):=κ (by rw[I.o,decide_eq_true τ,if_neg ζ])
     have U:=κ (Mf d.o.tab x);obtain⟨av,ae⟩:=ν ((qh s.tab.u x).getD sb0);rw[ae] at U O;have an:=κ ae;clear af ae I;obtain⟨s1,s2,s3⟩:=av;simp only at U O;cases s2 with
     | false=>
      have G:Hid (s.want x n=(s,5)):=κ (by rw[O.o,if_pos rfl]);rw[G.o]
      go_enter func36,ntmps36
      go_wp2_with (first | (go_at_call 89;(go_call Y.o _ as e w1 ⟨rfl,N⟩;obtain rfl:=N)) | (go_at_call 90;(go_call U.o as e w2 ⟨rfl,H⟩;have J:=κ H;clear H)))
      go_ret;exact⟨rfl,d.o.at.on J.o,d.o.at.stay J.o⟩
     | true=>
      have ai:(qh s.lanes x).isSome=true:=by
       rw[<-am.o.lane];have:=an.o;cases hu:qh s.tab.u x with
       | none=>rw[hu] at this;simp only[Option.getD_none] at this;unfold sb0 at this;injection this with _ q;injection q with q _;(try cases q)
       | some y=>rfl
      obtain⟨l,aa⟩:=Option.isSome_iff_exists.1 ai;obtain⟨p,ad,_⟩:=d.o.laneAt aa;have G:Hid (s.want x n=({s with lanes:=qw s.lanes x (jA l n).1},(jA l n).2)):=κ (by rw[O.o,if_neg ζ,aa]);have ao:=κ (λw' (m:qa w w')=>AI (d.o.on m) aa ad n)
      have al:Hid (∀w',qa w w'->(Instr.lookup 90 (.map (some k.ML)) (ι x) false).run prog w'= .ok (γ p) w'):=κ (λw' m=>by
       have:=xo (d.o.lnm.more m) x false;rw[ad] at this
       exact this)
      rw[G.o];clear ai aa ad
      go_enter func36,ntmps36
      go_wp2_with (first | (go_at_call 89;(go_call Y.o _ as e w1 ⟨rfl,N⟩;obtain rfl:=N)) | (go_at_call 90;(go_call U.o as e w2 ⟨rfl,H⟩;have J:=κ H;have ay:=β12 (qc H d.o.blk);have az:=al.o _ H;clear H)) | (go_at_call 91;(go_call ao.o _ J.o as e aB ⟨rfl,ah,t3⟩;have ak:=κ ah;have ap:=κ t3;clear ah t3)))
      go_ret;exact⟨rfl,ak.o,(d.o.at.stay J.o).trans ap.o⟩
   ·have G:Hid (s.want x n=(s,1)):=κ (by rw[I.o,decide_eq_false τ,if_pos (by rfl)]);rw[G.o]
    go_enter func36,ntmps36
    go_wp2;go_ret;exact⟨rfl,d.o.at,qt.refl _ _⟩
theorem Vw {t:TS} {x p:Int} (h: ¬(vO t x p).2=0):(vO t x p).1=t:=by
 unfold vO at h ⊢
 repeat' split
 all_goals first | rfl | skip
 rename_i d G H;rw[if_pos d,if_pos G,if_neg H] at h;exact absurd rfl h
theorem Pd {t:TS} {x p:Int} (h:qh t.u x=none): ¬(vO t x p).2=0:=by
 unfold vO;rw[h];split<;>simp
theorem XP (aJ:qF w0 w k s F) (ax:xZ s) (x p n:Int):
  Calls prog 46 #[γ k.R,ι x,ι p,ι n] w λe w'=>e= .returned (ι (s.subscribe x p n).2)/\qF w0 w' k (s.subscribe x p n).1 F/\qt F w w':=by
 obtain⟨T,vp,aQ,ao⟩:=aJ;have d:=κ ao;have aD:=κ ax;have aH:=β7 ao.blk;obtain⟨aI,an⟩:=ν (s.closed);rw[an] at aH;have ae:=κ an;clear an ao ax;cases aI with
 | true=>
  have G:Hid (s.subscribe x p n=(s,7)):=κ (by unfold RmS.subscribe;rw[if_pos ae.o]);rw[G.o]
  go_enter func46,ntmps46
  go_wp2;go_ret;exact⟨rfl,d.o.at,qt.refl _ _⟩
 | false=>
  obtain⟨aL,J⟩:=ν (jc n);have aa:=κ (λw=>Ui n w);rw[J] at aa;cases aL with
  | false=>
   have G:Hid (s.subscribe x p n=(s,1)):=κ (by unfold RmS.subscribe;rw[if_neg (by rw[ae.o];decide),if_pos J]);rw[G.o];clear J
   go_enter func46,ntmps46
   go_wp2_with (go_at_call 89;(go_call aa.o _ as e w1 ⟨rfl,O⟩;obtain rfl:=O))
   go_ret;exact⟨rfl,d.o.at,qt.refl _ _⟩
  | true=>
   have aO:=β12 d.o.blk;have q:_:=xo d.o.lnm x true;simp only[if_true] at q;obtain⟨Y,H⟩:=ν ((vO s.tab x p).2);obtain⟨ay,ac⟩:=ν ((vO s.tab x p).1);cases hl:qh s.lanes x with
   | none=>
    have aw:=d.o.laneNo hl;rw[aw] at q
    replace q:(Instr.lookup 90 (.map (some k.ML)) (ι x) true).run prog w= .ok (.tuple #[π none,false]) w:=q
    have am:qh s.tab.u x=none:=by
     have:=aD.o.lane x;rw[hl] at this;cases am:qh s.tab.u x with
     | none=>rfl
     | some y=>rw[am] at this;cases this
    have al:=Pd (p:=p) am;have ah:=Vw al
    have G:Hid (s.subscribe x p n=(s,Y)):=κ (by
     unfold RmS.subscribe Xc
     rw[if_neg (by rw[ae.o];decide),if_neg (by rw[J];decide),hl,if_neg ζ,if_neg al,H])
    have U:=κ (Jn d.o.tab x p);rw[ah,H] at U;have aG:(Y != 0)=true:=by rw[<-H];simp[al]
    have au:=β11 d.o.blk;rw[G.o];clear J hl aw am al ah H ac
    go_enter func46,ntmps46
    go_wp2_with (first | (go_at_call 89;(go_call aa.o _ as e w1 ⟨rfl,O⟩;obtain rfl:=O)) | (go_at_call 105;(go_call U.o as e w2 ⟨rfl,ar,aq⟩;have ap:=κ (KS d.o ar aq);clear ar aq)))
    go_ret;exact⟨rfl,ap.o.1,ap.o.2⟩
   | some l=>
    obtain⟨aK,ag,ak⟩:=d.o.laneAt hl;rw[ag] at q
    replace q:(Instr.lookup 90 (.map (some k.ML)) (ι x) true).run prog w= .ok (.tuple #[γ aK,true]) w:=q
    have ai:=κ (JK ak);have aB:=κ hl;have aC:=κ ag;obtain⟨g,ab⟩:=ν (l.gone);rw[ab] at ai;cases g with
    | true=>
     have G:Hid (s.subscribe x p n=(s,5)):=κ (by
      unfold RmS.subscribe Xc
      rw[if_neg (by rw[ae.o];decide),if_neg (by rw[J];decide),hl,if_pos ab])
     rw[G.o];clear J hl ag ak ab H ac
     go_enter func46,ntmps46
     go_wp2_with (first | (go_at_call 89;(go_call aa.o _ as e w1 ⟨rfl,O⟩;obtain rfl:=O)) | (go_at_call 69;(go_call ai.o as e w2 ⟨rfl,N⟩;have I:=κ N;clear N)))
     go_ret;exact⟨rfl,d.o.at.on I.o,d.o.at.stay I.o⟩
    | false=>
     have U:=κ (λw' (m:qa w w')=>Jn (d.o.tab.more m) x p);have aj:s.subscribe x p n=if Y=0 then ({s with tab:=ay,lanes:=qw s.lanes x (jA l n).1},(jA l n).2) else (s,Y):=by
      unfold RmS.subscribe Xc;rw[if_neg (by rw[ae.o];decide),if_neg (by rw[J];decide),hl];simp only;rw[if_neg (by rw[ab];decide),H,ac]
     by_cases e0:Y=0
     ·subst e0;have G:Hid (s.subscribe x p n=({s with tab:=ay,lanes:=qw s.lanes x (jA l n).1},(jA l n).2)):=κ (by rw[aj,if_pos rfl]);rw[H,ac] at U;rw[G.o];clear J hl ag ak ab H ac aj
      go_enter func46,ntmps46
      go_wp2_with (first | (go_at_call 89;(go_call aa.o _ as e w1 ⟨rfl,O⟩;obtain rfl:=O)) | (go_at_call 69;(go_call ai.o as e w2 ⟨rfl,N⟩;have I:=κ N;have au:=β11 (qc N d.o.blk);clear N)) | (go_at_call 105;(go_call U.o _ I.o as e aM ⟨rfl,af,a3⟩;have ad:=κ (KS (d.o.on I.o) af a3);obtain⟨aN,aP,aR,az⟩:=ad.o.1;have aE:=κ (AI az aB.o aC.o n);clear af a3 az)) | (go_at_call 91;(go_call aE.o as e w4 ⟨rfl,av,t4⟩;have aA:=κ av;have aF:=κ t4;clear av t4)))
      go_ret;exact⟨rfl,aA.o,(d.o.at.stay I.o).trans (ad.o.2.trans aF.o)⟩
     ·have ah:=Vw (t:=s.tab) (x:=x) (p:=p) (by rw[H];exact e0);have G:Hid (s.subscribe x p n=(s,Y)):=κ (by rw[aj,if_neg e0]);rw[H,ah] at U;have aG:(Y != 0)=true:=by simp[e0]
      rw[G.o];clear J hl ag ak ab H ac aj ah e0
      go_enter func46,ntmps46
      go_wp2_with (first | (go_at_call 89;(go_call aa.o _ as e w1 ⟨rfl,O⟩;obtain rfl:=O)) | (go_at_call 69;(go_call ai.o as e w2 ⟨rfl,N⟩;have I:=κ N;have au:=β11 (qc N d.o.blk);clear N)) | (go_at_call 105;(go_call U.o _ I.o as e aM ⟨rfl,af,a3⟩;have ad:=κ (KS (d.o.on I.o) af a3);clear af a3)))
      go_ret;exact⟨rfl,ad.o.1,(d.o.at.stay I.o).trans ad.o.2⟩
end
end
section
open _root_.Go.Proofs.Tryz
open Go.RowKit Go.Lib
theorem LM (w:World):Calls prog 317 #[δ none 0 0] w λe w'=>e= .returned (δ none 0 0)/\w'=w:=by
 go_enter func317,ntmps317
 go_wp2
 go_loopw [3,10] (λv d wr=>v= δ none 0 0/\d= ι 0/\wr=w) (λ_ _ _=>0)
 case atStart=>exact⟨rfl,rfl,rfl⟩
 case round=>
  obtain⟨rfl,rfl,rfl⟩:=hrel;go_wp2;go_ret;exact⟨rfl,rfl⟩
theorem AK (d:Int) (w:World):Calls prog 314 #[θ #[ι 1,ω 0,ω d,(),()]] w λe w'=>e= .returned (μ true)/\qa w w':=by
 go_enter func314,ntmps314
 go_wp2;go_ret;exact⟨rfl,ρ⟩
theorem LN (w:World):Calls prog 313 #[Γd] w λe w'=>e= .returned (μ true)/\qa w w':=by
 have d: ∀w:World,(binOp .eql 286 (θ #[ω 0,ω 0,ω 0,ω 0,ω 0]) (θ #[ω 0,ω 0,ω 0,ω 0,ω 0])).run prog w= .ok (μ true) w:=λw=>by kernel_rfl
 go_enter func313,ntmps313
 go_wp2;go_ret;exact⟨rfl,ρ⟩
theorem LO (w:World):Calls prog 311 #[θ #[υ 0,υ 0,()]] w λe w'=>e= .returned (μ true)/\qa w w':=by
 go_enter func311,ntmps311
 go_wp2;go_ret;exact⟨rfl,ρ⟩
theorem Nx (w:World):Calls prog 318 #[ι 1] w λe w'=>e= .returned (.tuple #[υ 206,υ 1])/\w'=w:=by
 go_enter func318,ntmps318
 go_wp2
 go_ret2
 exact⟨rfl,rfl⟩
theorem gG (d:Int):(qx 0 4++qx d 4).length=8:=by rw[List.length_append,Iu,Iu]
theorem LL (d:Int) (aq:0<=d/\d<=4294967295) (w:World):Calls prog 289 #[θ #[ι 1,ω 0,ω d,(),()]] w λe w'=> ∃ob cb,e= .returned (.tuple #[θ #[υ 1,υ 206,δ ob 8 cb],ι 0])/\SlI .u8 w' (δ ob 8 cb) (qx 0 4++qx d 4)/\qa w w'/\jS w (δ ob 8 cb):=by
 have ak:=κ (qq (qk w (.cells #[ι 1,ω 0,ω d,(),()] 283)) (.cells #[υ 0,υ 0,()] 291));have am:=κ (qB (w:=w.alloc (.cells #[ι 1,ω 0,ω d,(),()] 283)) (n:=w.heap.size+1) (o:=(.cells #[υ 0,υ 0,()] 291)) η);have ax:=κ aq;clear aq
 go_enter func289,ntmps289
 go_wp2_with (first | (go_at_call 314;(go_call AK d _ as e aa ⟨rfl,U⟩;have I:=κ (qc U ak.o);have an:=κ (qc U am.o);have ao:=κ (((qa.alloc w (.cells #[ι 1,ω 0,ω d,(),()] 283)).al (.cells #[υ 0,υ 0,()] 291)).trans U);clear U;have af:=κ (wT aa);have ac:=κ (qa.alloc aa (.cells #[δ none 0 0] 204));have az:=β1 (qc ac.o I.o))) | (go_at_call 95;((with_reducible refine(uB af.o 0 ζ η).mono ?_);rintro e w4 ⟨rfl,J⟩;have ad:=κ (J.to_more af.o ac.o (Nat.le_refl _));obtain⟨⟨v4,av,_⟩,_⟩:=J;have ag:=κ av;clear av az;have aA:=β2 (qc ad.o I.o))) | (go_at_call 95;((with_reducible refine(uB ag.o d ax.o (by simp only[List.length_append,Iu,List.length_nil];omega)).mono ?_);rintro e w5 ⟨rfl,J⟩;have H:=κ (J.to_more ag.o ad.o (Nat.le_refl _));obtain⟨⟨v5,aw,_⟩,_⟩:=J;have ah:=κ aw;clear aw aA;have aN:=β3 (qc H.o I.o);have aO:=β4 (qc H.o I.o);have aM:=β0 (qc H.o I.o))))
 clear af ag ac ad ak am;have aE:Hid (w.heap.size+1<aa.heap.size):=κ (ql an.o);rw[List.nil_append] at ah;generalize aa.heap.size=W at *
 go_loopw [24] (λai wr=>ai= ι 0/\wr=w5) (λ_ _=>0)
 case atStart=>exact⟨rfl,rfl⟩
 case round=>
  obtain⟨rfl,rfl⟩:=hrel
  go_wp2_with (go_at_call 317;(go_call LM _ as e w6 ⟨rfl,rfl⟩))
  go_loopw [40] (λai aL=>ai= ι 0/\aL=w6) (λ_ _=>0)
  case atStart=>exact⟨rfl,rfl⟩
  case round=>
   obtain⟨rfl,rfl⟩:=hrel
   go_wp2_with (first | (go_at_call 318;(go_call Nx _ as e aW ⟨rfl,rfl⟩)) | (go_at_call 97;(go_call gf ah.o (by rw[gG];decide) as e ab ⟨v51,rfl,Y,aj⟩;rw[gG] at Y;have ae:=κ Y;have ay:=κ aj;have G:=κ (qc aj (qc H.o an.o));obtain⟨N,c5,rfl,-⟩:=Pg Y;clear Y aj;have aP:=β0 G.o;have aQ:=β1 G.o;have aR:=β2 G.o;have aS:=qd G.o 0;have aT:=qd G.o 1;have aU:=qd G.o 2)))
   have O:=WT G.o (υ 1) (υ 206) (δ N 8 c5);have ar:=(((ao.o.trans H.o).trans ay.o)).st3 (w.heap.size+1) τ (υ 1) (υ 206) (δ N 8 c5);have a3:qg (λb=>b=w.heap.size+1) ab (((ab.setCell ⟨w.heap.size+1,0,none⟩ (υ 1)).setCell ⟨w.heap.size+1,1,none⟩ (υ 206)).setCell ⟨w.heap.size+1,2,none⟩ (δ N 8 c5)):=
    (((qg.refl (λb=>b=w.heap.size+1) ab).set (p:=⟨w.heap.size+1,0,none⟩) rfl _).set (p:=⟨w.heap.size+1,1,none⟩) rfl _).set (p:=⟨w.heap.size+1,2,none⟩) rfl _
   have au:=XG ae.o a3 (λb aF e=>by have aB:=jD ae.o aF;have aC:=H.o.size;have aD:=aE.o;have aV:=ql ah.o.blk;omega);obtain⟨WF,ap⟩:=ν ((((ab.setCell ⟨w.heap.size+1,0,none⟩ (υ 1)).setCell ⟨w.heap.size+1,1,none⟩ (υ 206)).setCell ⟨w.heap.size+1,2,none⟩ (δ N 8 c5)));rw[ap] at O ar au ⊢;clear ap a3;have aI:=β0 O;have aJ:=β1 O;have aK:=β2 O
   (refine bodyPost_ret (v:= .tuple #[θ #[υ 1,υ 206,δ N 8 c5],ι 0]) ?rr1 rfl ?_;(case rr1=>(simp[results,results289,go_sem,aI,aJ,aK])))
   have aH:=SlI.of_owns (l:=qx 0 4++qx d 4) (by rw[gG];exact au) (by rw[gG];decide);exact⟨_,_,rfl,aH,ar,λg aG=>by have aB:=jD ae.o aG;have aC:=H.o.size;have aD:=ao.o.size;omega⟩
theorem Hj (G:Int) (w:World):Calls prog 287 #[θ #[ι 2,false,ω 0,ω 0,ω 0,ω 0,ω 0,ω 0,(),ι 1,ω 0,ω G,(),(),υ 0,υ 0,()]] w λe w'=>e= .returned (μ true)/\qa w w':=by
 go_enter func287,ntmps287
 go_wp2_with (first | (go_at_call 313;(go_call LN _ as e w1 ⟨rfl,m⟩;have H:=κ ((qa.alloc w _).trans m);have d:=κ (qc m (qk w _));obtain⟨⟨O,U,ag,ah,ai,aj,ak,al,am⟩,⟨an,Y,aa,ab,ac⟩,ad,ae,af⟩:=JM d.o;clear m)) | (go_at_call 311;(go_call LO _ as e w2 ⟨rfl,m⟩;have I:=κ (H.o.trans m);have N:=κ (qc m d.o);obtain⟨⟨O,U,ag,ah,ai,aj,ak,al,am⟩,⟨an,Y,aa,ab,ac⟩,ad,ae,af⟩:=JM N.o;clear m)) | (go_at_call 314;(go_call AK G _ as e ao ⟨rfl,m⟩;have J:=κ (I.o.trans m);clear m)))
 go_ret;exact⟨rfl,J.o⟩
theorem Eo (d:Int) (ak:0<=d/\d<=4294967295) (w:World):Calls prog 259 #[θ #[ι 2,false,ω 0,ω 0,ω 0,ω 0,ω 0,ω 0,(),ι 1,ω 0,ω d,(),(),υ 0,υ 0,()]] w λe w'=> ∃ob cb,e= .returned (.tuple #[θ #[υ 1,υ 206,δ ob 8 cb],ι 0])/\SlI .u8 w' (δ ob 8 cb) (qx 0 4++qx d 4)/\qa w w'/\jS w (δ ob 8 cb):=by
 obtain⟨J,H⟩:=ν ((w.alloc (.cells #[ι 2,false,ω 0,ω 0,ω 0,ω 0,ω 0,ω 0,(),ι 1,ω 0,ω d,(),(),υ 0,υ 0,()] 293)).alloc (.cells #[υ 0,υ 0,()] 291));have ag:Hid (qa w J):=κ (by rw[<-H];exact(qa.alloc _ _).al _);have ab:Hid (J.heap[w.heap.size]? =some (.cells #[ι 2,false,ω 0,ω 0,ω 0,ω 0,ω 0,ω 0,(),ι 1,ω 0,ω d,(),(),υ 0,υ 0,()] 293)):=κ (by rw[<-H];exact qq (qk w _) _);have af:Hid (J.heap[w.heap.size+1]? =some (.cells #[υ 0,υ 0,()] 291)):=κ (by rw[<-H];exact qB η)
 go_enter func259,ntmps259
 go_upto_region 1 with fail
 (try rw[H])
 clear H;obtain⟨⟨am,an,ax,ay,az,aA,aB,aC,aD⟩,⟨aE,ao,ap,aq,ar⟩,au,av,aw⟩:=JM ab.o
 go_wp2_with (first | (go_at_call 287;(go_call Hj d _ as e w1 ⟨rfl,m⟩;have Y:=κ (ag.o.trans m);have aj:=κ (qc m ab.o);have U:=κ (qc m af.o);obtain⟨⟨am,an,ax,ay,az,aA,aB,aC,aD⟩,⟨aE,ao,ap,aq,ar⟩,au,av,aw⟩:=JM aj.o;clear m)) | (go_at_call 289;(go_call LL d ak _ as e w2 ⟨o2,c2,rfl,s2,O,n2⟩;have ai:=κ s2;have aa:=κ n2;have ah:=κ (Y.o.trans O);have G:=κ (qc O U.o);have aI:=β0 G.o;have aJ:=β1 G.o;have aK:=β2 G.o;have aL:=qd G.o 0;have aM:=qd G.o 1;have aN:=qd G.o 2;clear s2 O n2)))
 have I:=WT G.o (υ 1) (υ 206) (δ o2 8 c2);have a3:qg (λb=>b=w.heap.size+1) w2 (((w2.setCell ⟨w.heap.size+1,0,none⟩ (υ 1)).setCell ⟨w.heap.size+1,1,none⟩ (υ 206)).setCell ⟨w.heap.size+1,2,none⟩ (δ o2 8 c2)):=(((qg.refl (λb=>b=w.heap.size+1) w2).set (p:=⟨w.heap.size+1,0,none⟩) rfl _).set (p:=⟨w.heap.size+1,1,none⟩) rfl _).set (p:=⟨w.heap.size+1,2,none⟩) rfl _;have ad:=qg.to_more ah.o a3 (λb e=>by omega);have ae:=ai.o.off2 (λ_ b N (e:b=w.heap.size+1)=>by have:=aa.o b N;have:=ql U.o;omega) a3;obtain⟨WF,ac⟩:=ν ((((w2.setCell ⟨w.heap.size+1,0,none⟩ (υ 1)).setCell ⟨w.heap.size+1,1,none⟩ (υ 206)).setCell ⟨w.heap.size+1,2,none⟩ (δ o2 8 c2)));rw[ac] at I ad ae ⊢;clear ac a3;have aF:=β0 I;have aG:=β1 I;have aH:=β2 I
 (refine bodyPost_ret (v:= .tuple #[θ #[υ 1,υ 206,δ o2 8 c2],ι 0]) ?rr2 rfl ?_;(case rr2=>(simp[results,results259,go_sem,aF,aG,aH])))
 exact⟨_,_,rfl,ae,ad,λb N=>Nat.le_trans Y.o.size (aa.o b N)⟩
theorem Gc (n s:Int):Byt (qx n s):=by
 unfold qx;split
 ·exact JP _ _
 ·exact xf
theorem Fo (d:Int):xh (Zd d):=⟨⟨by show (0:Int)<=1;decide,by show (1:Int)<=255;decide⟩,⟨by show (0:Int)<=206;decide,by show (206:Int)<=255;decide⟩,yd (Gc 0 4) (Gc d 4)⟩
theorem Hk (d:Int) (aw:0<=d/\d<=4294967295) (b cap:Nat) (w:World) (aL:b<w.heap.size) (ah:w.rangeAt b 0 [ι 2,false,ω 0,ω 0,ω 0,ω 0,ω 0,ω 0,(),ι 1,ω 0,ω d,(),(),υ 0,υ 0,()]):Calls prog 205 #[δ (some ⟨b,0,none⟩) 1 cap] w λe w'=> ∃vx,e= .returned (.tuple #[vx,ι 0])/\SlP 3 yG w' vx [Zd d]/\qa w w':=by
 obtain⟨aC,hi,ax,ay,az⟩:=info_parts (P:=prog) (e:=291) (z:= θ #[υ 0,υ 0,()]) (size:=3) (bytes:=32) ξ;obtain⟨aD,aE,aF,aG,aH⟩:=info_parts (P:=prog) (e:=29) (z:= ι 0) (size:=1) (bytes:=8) ξ;have an:=κ ah;have ao:Hid (ChJ w w (δ none 0 0) (δ none 0 0) [] []):=κ ⟨qV.nil _ _ _ _ _ _,World.ownsRow_nil _ _ _ _,qa.refl _⟩;clear ah
 go_enter func205,ntmps205
 go_wp2
 go_loopw [4,5,12] (λu v H wr=>(H= ι 0/\u= δ none 0 0/\v= δ none 0 0/\wr=w)∨(H= ι 1/\ ∃ad aa N ae ab O,u= δ ad aa N/\v= δ ae ab O/\ChJ w wr (δ ad aa N) (δ ae ab O) [Zd d] [0])) (λ_ _ H _=>1-(intOf H).toNat)
 case atStart=>exact Or.inl ⟨rfl,rfl,rfl,rfl⟩
 case round=>
  rcases hrel with ⟨rfl,rfl,rfl,rfl⟩ | ⟨rfl,ad,aa,N,ae,ab,O,rfl,rfl,ag⟩
  ·go_wp2_with (first | (refine wpList_load_mid rfl 293 (.tmp 14) rfl b 0 rfl [ι 2,false,ω 0,ω 0,ω 0,ω 0,ω 0,ω 0,(),ι 1,ω 0,ω d,(),(),υ 0,υ 0,()] _ an.o underlying293 rfl ξ ?_) | (refine jQ rfl 293 (.tmp 7) (.tmp 15) rfl wr _ #[ι 2,false,ω 0,ω 0,ω 0,ω 0,ω 0,ω 0,(),ι 1,ω 0,ω d,(),(),υ 0,υ 0,()] rfl rfl rfl ξ rfl rfl ?_) | (refine wpList_load_row rfl 293 (.tmp 7) rfl wr.heap.size rfl _ #[ι 2,false,ω 0,ω 0,ω 0,ω 0,ω 0,ω 0,(),ι 1,ω 0,ω d,(),(),υ 0,υ 0,()] _ _ (heap_alloc_new wr _) underlying293 rfl ξ ?_) | (go_at_call 259;(go_call Eo d aw _ as e w1 ⟨ac,af,rfl,s1,am,aI⟩;have ar:=κ s1;have aq:=κ ((qa.alloc wr (.cells #[ι 2,false,ω 0,ω 0,ω 0,ω 0,ω 0,ω 0,(),ι 1,ω 0,ω d,(),(),υ 0,υ 0,()] 293)).trans am);have G:=κ ((ao.o.on aq.o).on ((qa.alloc w1 (.cells #[υ 1,υ 206,δ ac 8 af] 291)).al (.cells #[υ 1,υ 206,δ ac 8 af] 291)));clear s1 am aI)) | (at_builtin;refine jj _ rfl (.tmp 21) (.tmp 23) 385 rfl wr.heap.size 291 aC (θ #[υ 0,υ 0,()]) 3 32 underlying385 hi ax ay az rfl ζ _ [] rfl G.o.row (w1.heap.size+1) [υ 1,υ 206,δ ac 8 af] (Zd d) rfl rfl (xO η) (by simp[Value.oneCell']) ((Dq (c:=Zd d) ar.o (Fo d) (λ_ g _ h=>by rcases h with h | h<;>cases h)).on ((qa.alloc _ _).al _)) (λb h=>gI G.o.errs h) ζ ζ G.o.more.size ?_;intro aP w8 U ai av;have J:=κ (G.o.put U ai);obtain⟨aN,aM,aJ,rfl,aA,aB⟩:=U.shape;clear U ai av aA aB) | (at_builtin;refine qK _ rfl (.tmp 25) (.tmp 27) 416 rfl wr.heap.size 29 aD (ι 0) 8 underlying416 aE aF aG aH rfl _ .i64 [] rfl (J.o.on (qa.alloc _ _)).errs _ [0] rfl (SlI.lit .i64 w8 [0] 29 _ 1 _ rfl rfl rfl η) η ζ (by have:=J.o.more.size;simp;omega) ?_;intro v9 w9 Y aj ak;have ap:=κ ((J.o.on (qa.alloc _ _)).err (E':=[0]) Y aj ak);obtain⟨aO,aK,au⟩:=xG Y;subst au;clear Y aj ak))
   go_roundw
   case rel=>exact Or.inr ⟨by go_num,_,_,_,_,_,_,rfl,rfl,ap.o⟩
   case measure=>simp[intOf]
  ·have I:=κ ag;clear ag
   go_wp2_with (go_at_call 242;(go_call gj [0] _ _ (SlI.of_owns I.o.errs ζ) as e aQ ⟨rfl,rfl⟩))
   go_ret2
   exact⟨_,rfl,I.o.row.sl ζ,I.o.more⟩
theorem Vx (d:Int):[Zd d].length<=100000/\ ∀i,i<[Zd d].length->([Zd d].getD i xt).2.2.1.length<=1000000:=by
 refine⟨η,λi hi=> ?_⟩;obtain rfl:i=0:=by simpa using hi
 show (qx 0 4++qx d 4).length<=1000000;rw[gG]
 decide
theorem Hi (d:Int) (ac:0<=d/\d<=4294967295) {b t:Nat} (cap:Nat) (w:World) (H:w.heap[b]? =some (.cells #[ι 2,false,ω 0,ω 0,ω 0,ω 0,ω 0,ω 0,(),ι 1,ω 0,ω d,(),(),υ 0,υ 0,()] t (0,0))):Calls prog 144 #[δ (some ⟨b,0,none⟩) 1 cap] w λe w'=> ∃G er,e= .returned (.tuple #[G,ι er])/\SlI .u8 w' G (um d)/\qa w w'/\ ∀g,G.ownBlock=some g->w.heap.size<=g:=by
 have O:=κ (Hk d ac b cap w (ql H) (λj v ad=>by rw[Nat.zero_add];exact qb H j (by simpa using ad)));clear H
 go_enter func144,ntmps144
 go_wp2_with (first | (go_at_call 205;(go_call O.o as e w1 ⟨G,rfl,s1,J⟩;have aa:=κ s1;have I:=κ J;clear s1 J)) | (go_at_call 206;(go_call DN G [Zd d] _ aa.o (Vx d).1 (Vx d).2 as e w2 ⟨ae,rfl,s2,N,n2⟩;have ab:=κ s2;have U:=κ (I.o.trans N);have Y:=κ (λ(b:Nat) (hb:ae.ownBlock=some b)=>Nat.le_trans I.o.size (n2 b hb));clear s2 N n2)))
 go_ret2
 exact⟨_,_,rfl,ab.o,U.o,Y.o⟩
end
section
open _root_.Go.Proofs.Tryz
section
variable {T:Nat->Tg} {w0 w w':World} {k:RmK} {vp vr:Value} {s:RmS} {F:List Nat}
theorem Em (bk:qF w0 w k s F) (G o2:Int) (aL: ∀o v,qh s.tab.s o=some v->0<=v/\v<=4294967295) (bC:s.reqs.length<=1000000):
  Calls prog 86 #[γ k.R,θ #[ι G,ι o2]] w λe w'=>e= .returned (.tuple #[])/\qF w0 w' k (s.request (G,o2)) F/\qt F w w':=by
 obtain⟨T,vp,bE,h⟩:=bk;obtain⟨W1,af⟩:=ν (w.alloc (.cells #[ι G,ι o2] 58));have aq:Hid (qa w W1):=κ (by rw[<-af];exact qa.alloc _ _);have ax:Hid (W1.heap[w.heap.size]? =some (.cells #[ι G,ι o2] 58 (0,0))):=κ (by rw[<-af];exact qk w _);have ab:=κ (h.on aq.o);have bi:=κ (h.at.stay aq.o);have az:=κ h.fresh;obtain⟨d,ah⟩:=ν ((qh s.tab.s (G,o2)).getD 0)
 have be:Hid (0<=d/\d<=4294967295):=κ (by
  rw[<-ah];cases hm:qh s.tab.s (G,o2) with
  | none=>exact⟨ζ,ζ⟩
  | some v=>exact aL _ v hm)
 have bd:Hid (s.request (G,o2)={s with reqs:=s.reqs++[⟨(G,o2),s.clock,um d⟩]}):=κ (by unfold RmS.request;rw[ah]);have aA:=κ (Ej (ab.o.tab.more (qa.drewN W1 1)) (G,o2));rw[ah] at aA;clear ah aL h;have aZ:=λ(x:qp W1)=>β11 (qc x.h ab.o.blk)
 have an:=λ(x:qp W1)=>qc x.h ax.o
 have aj:=λx=>β0 (an x);have ak:=λx=>β1 (an x);clear an
 go_enter func86,ntmps86
 go_upto_region 1 with fail
 (try rw[af])
 clear af;refine Qn W1 11 11 [5] ?_
 refine Qq5 ?_
 (refine Ql ?_;intro K H)
 (with_reducible refine aA.o.mono ?_)
 rintro e w2 ⟨rfl,aN⟩;have ae:Hid (qa W1 w2):=κ ((qa.drewN W1 1).trans aN);clear aN;refine⟨_,rfl,qj ae.o,H _ _ ?_⟩;clear H K
 iterate 5 (refine qD rfl rfl (qj ae.o) ?_;intro K H;go_big_quiet_op;go_big_quiet_on)
 refine qv ?_;clear aZ aj ak;obtain⟨au,ag⟩:=ν ((w2.alloc (.cells #[ι 1,ω 0,ω d,(),()] 283)).alloc (.cells #[ι 2,false,ω 0,ω 0,ω 0,ω 0,ω 0,ω 0,(),ι 1,ω 0,ω d,(),(),υ 0,υ 0,()] 293));have aD:Hid (qa w2 au):=κ (by rw[<-ag];exact(qa.alloc _ _).al _);have bh:Hid (au.heap[w2.heap.size+1]? =some (.cells #[ι 2,false,ω 0,ω 0,ω 0,ω 0,ω 0,ω 0,(),ι 1,ω 0,ω d,(),(),υ 0,υ 0,()] 293 (0,0))):=κ (by rw[<-ag];exact qB η);have aC:=κ (Hi d be.o 1 au bh.o)
 go_upto_region 4 with (first | (refine jQ rfl 283 (.tmp 6) (.tmp 19) rfl w2 _ #[ι 1,ω 0,ω d,(),()] rfl rfl rfl ξ rfl rfl ?_) | (refine wpList_load_row rfl 283 (.tmp 6) rfl w2.heap.size rfl _ #[ι 1,ω 0,ω d,(),()] _ _ (heap_alloc_new w2 _) underlying283 rfl ξ ?_) | ((try rw[ag]);(go_at_call 144;(go_call aC.o as e w5 ⟨bF,bv,rfl,aw,aO,aP⟩;have aE:=κ aw;have bf:Hid (qa w2 w5):=κ (aD.o.trans aO);have bg:=κ (λb I=>Nat.le_trans aD.o.size (aP b I));obtain⟨aa,Y,rfl,_⟩:=id aw;clear aw aO aP))))
 clear ag aC;have ar:Hid (qa W1 w5):=κ (ae.o.trans bf.o);have aW:=ab.o.on ar.o;have bj:=κ (bi.o.trans (ab.o.at.stay ar.o));have bB:=ab.o.more.size
 obtain⟨J,aX,aG,aH⟩:=aW.data (λb=>um d≠[]/\(δ aa (um d).length Y).ownBlock=some b) (λb I=>by
  have bx:=bg.o b I.2;have bz:=ae.o.size;have bA:=aq.o.size
  exact⟨az.o b τ,τ,aE.o.old I.1 I.2,λhF=>by have:=(ab.o.law b hF).2.2;omega⟩)
 have U:=κ aX;have aB:=κ aG;clear aX aG aW;have aY:=κ (qc ar.o ax.o);obtain⟨O,_,N,rfl,rfl,_⟩:=(U.o.all .reqs).1.shape;obtain⟨_,aM⟩:=U.o.all .reqs;have am:=κ aM;clear aM;have aR: ¬(δ O s.reqs.length N).ownBlock=some k.R:=λe=>by have:=am.o _ e;rw[(U.o.all .room).1] at this;cases this
 have aK:J w.heap.size= .no∨J w.heap.size= .data:=by
  by_cases e:um d≠[]/\(δ aa (um d).length Y).ownBlock=some w.heap.size
  ·exact Or.inr (aB.o _ e)
  ·exact Or.inl (by rw[aH _ e];exact az.o _ (Nat.le_refl _))
 have bt: ¬(δ O s.reqs.length N).ownBlock=some w.heap.size:=λe=>by have:=am.o _ e;rcases aK with q | q<;>rw[q] at this<;>cases this
 clear aK aH;have ao:=λ(x:qu (λb=>(δ O s.reqs.length N).ownBlock=some b) w5)=>x.h.blk U.o.blk aR
 have ba:=λx=>β15 (ao x);have bb:=λx=>β9 (ao x);clear ao
 have ap:=λ(x:qu (λb=>(δ O s.reqs.length N).ownBlock=some b) w5)=>x.h.blk aY.o bt
 have aj:=λx=>β0 (ap x);have ak:=λx=>β1 (ap x);clear ap
 obtain⟨bs,hi,bp,bq,br⟩:=info_parts (P:=prog) (e:=296) (z:= θ #[ι 0,ι 0,ι 0,()]) (size:=4) (bytes:=48) ξ;refine QN (λb=>(δ O s.reqs.length N).ownBlock=some b) w5 16 17 [12,13,14,16] ?_
 refine Mj ?_
 clear ba bb aj ak
 (refine Ql ?_;intro K H)
 refine⟨qi (((qg.refl _ w5).drewN 1).alc _),H _ _ ?_⟩;clear H K;have bo: ∀g,(δ O s.reqs.length N).ownBlock=some g->J g= .reqs:=am.o;have aU:=(((U.o.all .reqs).1.on (qa.drewN w5 1)).on (qa.alloc _ (.cells #[ι G,ι o2,ι s.clock,δ aa (um d).length Y] 296))).other (D':=λb=>(J b≠ .data/\J b≠ .reqs)/\b<w5.heap.size) (λb I=>Or.inl I.1);have aV:=(aE.o.keep (qa.drewN w5 1)).keep (qa.alloc _ (.cells #[ι G,ι o2,ι s.clock,δ aa (um d).length Y] 296));have aT:jp RRq (λb=>((J b≠ .data/\J b≠ .reqs)/\b<w5.heap.size)∨(δ O s.reqs.length N).ownBlock=some b) ((w5.drewN 1).alloc (.cells #[ι G,ι o2,ι s.clock,δ aa (um d).length Y] 296)) [ι G,ι o2,ι s.clock,δ aa (um d).length Y] ⟨(G,o2),s.clock,um d⟩:=λw' a=>
  ⟨_,rfl,aV.off2 (λbn b I ad=>by
   have e:=aB.o b ⟨bn,I⟩;rcases ad with ad | ad
   ·exact ad.1.1 e
   ·rw[bo b ad] at e;cases e) a⟩
 refine jJ rfl rfl ?_;intro K H
 refine zK (.tmp 31) (.tmp 39) 93 rfl 0 296 bs (θ #[ι 0,ι 0,ι 0,()]) 4 48 underlying93 hi bp bq br rfl ζ _ s.reqs rfl aU w5.heap.size [ι G,ι o2,ι s.clock,δ aa (um d).length Y] ⟨(G,o2),s.clock,um d⟩ rfl rfl (ud rfl) (by simp[Value.oneCell']) aT (λb I=>by
  have:=I.2;have:=(((qa.drewN w5 1)).al (.cells #[ι G,ι o2,ι s.clock,δ aa (um d).length Y] 296)).size
  omega) ζ τ (Nat.zero_le _) ?_
 intro bD w6 av aJ aI;have ac:Hid (qg (λb=>(δ O s.reqs.length N).ownBlock=some b) w5 w6):=κ ((((qg.refl _ w5).drewN 1).alc _).trans (qg.of_grown aJ));obtain⟨aS,aQ,aF,rfl,bl,bm⟩:=av.shape;have ai:=κ (ac.o.blk U.o.blk aR);have bc:(J k.R≠ .data/\J k.R≠ .reqs)/\k.R<w5.heap.size:=⟨by rw[(U.o.all .room).1];exact⟨η,η⟩,U.o.lt⟩;have ay:=κ (U.o.reqsPut (y:=⟨(G,o2),s.clock,um d⟩) ((ac.o.mono (S':=λb=>(δ O s.reqs.length N).ownBlock=some b∨b=k.R) (λb I=>Or.inl I)).set (p:=⟨k.R,15,none⟩) (Or.inr rfl) (δ aS aQ aF)) (((qa.drewN w5 1)).al (.cells #[ι G,ι o2,ι s.clock,δ aa (um d).length Y] 296)).size (av.step (qg.set (S:=λb=>(J b≠ .data/\J b≠ .reqs)/\b<w5.heap.size) (qg.refl _ _) (p:=⟨k.R,15,none⟩) bc (δ aS aQ aF))) aI (qA (qo ai.o 15 _) rfl));have bu:w6.cell? ⟨k.R,15,none⟩=some (δ O s.reqs.length N):=qb ai.o 15 rfl;have bw:w6.frozen? ⟨k.R,15,none⟩=false:=qd ai.o 15;clear av aJ aI aU aT aV bl bm;refine⟨qi ac.o,H _ _ ?_⟩;clear H K;go_simp
 (refine Ql ?_;intro K H)
 refine⟨qi ac.o,H _ _ ?_⟩;clear H K
 iterate 1 (refine qD rfl rfl (qi ac.o) ?_;intro K H;go_big_quiet_op;go_big_quiet_on)
 (refine Qe ?_;intro K H)
 refine H _ _ ?_;clear H K;refine qv ?_;go_wp2
 (refine bodyPost_end (v:= .tuple #[]) ?re1 rfl ?_;(case re1=>simp[results,results86,go_sem]))
 exact⟨rfl,by rw[bd.o];exact ay.o.1,bj.o.trans ay.o.2⟩
end
end
theorem jZ {P:Program} {w:World} {o:Oper} {a:Act} {C:World->Prop} {K:Act->World->Prop} (G:TypeId) (x y:Operand) (J:o.op= .store G x y)
  (g:Nat) (t:TypeId) (c d:Array Value) (I:w.heap[g]? =some (.cells c t (0,0))) (O:a.eval x= γ g) (U:a.eval y= θ d)
  (hi:(P.info? G).map (·.size)=some d.size) (N:c.size=d.size) (H:d.all (·.oneCell')=true)
  (h:C (w.setRow g d)/\K (a.put o.dst undef) (w.setRow g d)):jl P C o a w K:=by
 unfold jl execOp;simp only[J,O,U,Instr.storeAt,Instr.sureAddr,Sem.run_bind,Sem.run_pure,Result.andThen_ok,run_storeVar_row w g t G c d I hi N H];exact h
theorem qa.row {w w':World} (h:qa w w') {g:Nat} (G:w.heap.size<=g) (cs:Array Value):qa w (w'.setRow g cs):=qg.to_more h (qg.setRow w' g cs) (λb d=>by rw[d];exact G)
section
open _root_.Go.Proofs.Tryz
theorem Tk.subs {m:Nat} {d:Int} {s s':RmS} (h:Tk m d s s') (k:xZ s):xZ s':=⟨by rw[h.tab];exact k.keys,by rw[h.tab,h.lanes];exact k.lane,by rw[h.tab];exact k.few⟩
theorem qX.subs {n:Nat} {s:RmS} (h:qX n s) (d:n<=1000):xZ s:=⟨h.tb.keys,h.tb.lane,Nat.le_trans h.num.few τ⟩
section
variable {T:Nat->Tg} {w0 w w':World} {k:RmK} {vp vr:Value} {s:RmS} {F:List Nat}
theorem Io {n:Nat} (aW:qF w0 w k s F) (bI:qX n s) (cv:n<=1000):
  Calls prog 34 #[γ k.R] w λe w'=>e= .returned (ι s.tick.2)/\qF w0 w' k s.tick.1 F/\qt F w w':=by
 have bm:=κ aW;have ao:=κ bI;obtain⟨vp,cD,aB⟩:=aW.blk;have bD:=β7 aB;have cp:=β9 aB;have cr:=qd aB 9;obtain⟨cq,bb⟩:=ν (s.closed);rw[bb] at bD;have bn:=κ bb;clear bb aB aW bI;cases cq with
 | true=>
  have aD:Hid (s.tick=(s,7)):=κ (by unfold RmS.tick;rw[if_pos bn.o]);rw[aD.o]
  go_enter func34,ntmps34
  go_wp2;go_ret;exact⟨rfl,bm.o,qt.refl _ _⟩
 | false=>
  obtain⟨cP,cQ⟩:=ao.o.num.clock;have aQ:=κ (bm.o.cell 9 (ι (s.clock+1)) (s':={s with clock:=s.clock+1}) (λ_ _=>rfl) ⟨rfl,rfl,rfl,rfl,rfl,rfl,rfl,rfl,rfl⟩);obtain⟨s1,aM⟩: ∃s1:RmS,{s with clock:=s.clock+1}=s1:=⟨_,rfl⟩;obtain⟨J,bc⟩:=ν (s.origins);have aD:Hid (s.tick=(J.foldl RmS.tick1 s1,0)):=κ (by unfold RmS.tick;rw[if_neg (by rw[bn.o];decide),bc,aM])
  have ar:Hid (xZ s1/\zR s1.cfg=true/\(0<=s1.clock/\s1.clock<=1001)/\(∀o t,qh s1.strs o=some t->0<=t.asks.tries/\t.asks.tries<=9000/\0<=t.asks.last/\t.asks.last<=1000)/\s1.reqs.length<=9000/\(∀o v,qh s1.tab.s o=some v->0<=v/\v<=4294967295)/\s1.origins=J):=κ (by
   rw[<-aM];have ct:=ao.o.num.asks;have aL:=ao.o.num.reqs;have be:=ao.o.subs cv
   exact⟨⟨be.keys,be.lane,be.few⟩,ao.o.num.cfg,by simp only;omega,λo t az=>by have:=ct o t az;omega,by simp only;omega,ao.o.tb.src,bc⟩)
  obtain⟨W1,aY⟩:=ν (w.setCell ⟨k.R,9,none⟩ (ι (s.clock+1)));rw[aM,aY] at aQ;obtain⟨T,vp,cD,bO⟩:=aQ.o.1;have bv:=κ bO;have bq:=κ bv.o.orgsF;rw[ar.o.2.2.2.2.2.2] at bq;clear bO aM bc
  go_enter func34,ntmps34
  go_wp2_with ((try rw[aY]);(go_at_call 64;(go_call bq.o as e w2 ⟨db,cap,Fn,rfl,bG,bW,bS,bL⟩;have cf:=κ bL;have cb:=κ bW.at;have ch:=κ bS;have cc:=κ bG;clear bL bW bS bG)))
  clear aY cp cr bD;have cj:=κ (aQ.o.2.trans (bv.o.at.stay ch.o));have da:=cc.o
  go_loopw [22] (λbh wr=> ∃j:Nat,j<=J.length/\bh= ι j/\qF w0 wr k ((J.take j).foldl RmS.tick1 s1) (Fn++F)/\qt (Fn++F) w2 wr) (λbh _=>J.length-(intOf bh).toNat)
  case atStart=>exact⟨0,τ,rfl,cb.o,qt.refl _ _⟩
  case round=>
   obtain⟨j,cZ,rfl,aL,az⟩:=hrel;have aS:=κ az;by_cases hlt:j<J.length
   ·have cu:(j:Int)<(J.length:Int):=by omega
    obtain⟨g,rfl,bC,c1⟩:=cf.o wr (λb aa=>az.2 b (by simp[aa])) j hlt;have bu:Hid (J.take (j+1)=J.take j++[J[j]]):=κ (by rw[List.take_add_one,List.getElem?_eq_getElem hlt];rfl);have am:=κ (gP (J.take j) s1);have bJ:(J.take j).length<=9:=by rw[List.length_take];omega
    have bp:=κ bJ;obtain⟨ts,bN⟩: ∃t,qh s1.strs J[j]=some t:=yB (by rw[ar.o.2.2.2.2.2.2];exact List.getElem_mem hlt);generalize J[j]=o at *;generalize bM:(J.take j).foldl RmS.tick1 s1=sj at *;have bt:=κ bM;clear bM az bJ;obtain⟨t,bf⟩: ∃t,qh sj.strs o=some t:=by
     have:=vz (am.o.strs o);rw[bN] at this;exact Option.isSome_iff_exists.1 this
    have aE:=κ bf;have bH:xZ sj/\(1<=sj.cfg.space/\sj.cfg.space<=sj.cfg.retry/\sj.cfg.retry<=1000)/\xz sj.clock/\(0<=t.asks.tries/\t.asks.tries<=1000000/\xz t.asks.last):=by
     obtain⟨cw,cx,dg,cy,dh,di,dj⟩:=ar.o;obtain⟨t0,a0,cn,co,ay⟩:=am.o.asks o t bf;obtain⟨bE,cS,cT,cU⟩:=cy o t0 a0;rw[if_pos bE] at co;have:=bp.o;refine⟨am.o.subs cw,by rw[am.o.cfg];exact(vn cx).2.2.1,by rw[am.o.clock];exact⟨τ,τ⟩,cn bE,τ, ?_⟩;rcases ay with ay | ay<;>rw[ay]<;>exact⟨τ,τ⟩
    have ak:=κ bH;have cg:Hid (∀o v,qh sj.tab.s o=some v->0<=v/\v<=4294967295):=κ (by rw[am.o.tab];exact ar.o.2.2.2.2.2.1);have ce:Hid (sj.reqs.length<=1000000):=κ (by have:=am.o.reqs;have:=ar.o.2.2.2.2.1;have:=bp.o;omega);clear bH bN bf;obtain⟨I,o2⟩:=o;simp only at bC c1;obtain⟨ah,aK⟩:=ν (wr.alloc (.cells #[ι I,ι o2] 58));have bx:Hid (qa wr ah):=κ (by rw[<-aK];exact qa.alloc _ _);have aA:Hid (ah.heap[wr.heap.size]? =some (.cells #[ι I,ι o2] 58 (0,0))):=κ (by rw[<-aK];exact qk wr _);have bA:=κ (aL.stay bx.o);obtain⟨cl,cC,cE,bP⟩:=aL;have aX:RmX cl w0 ah k cC cE sj ([wr.heap.size]++(Fn++F)):=bP.adds bx.o (λb aa=>by simp at aa;subst aa;exact⟨Nat.le_refl _,lt_of_block aA.o⟩);have aF:=κ aX;obtain⟨p,cI,v,bK,bQ⟩:=aX.strAt aE.o;have bw:=κ bQ;have bs:=κ bK;have bY:=λ(x:qp ah)=>β13 (qc x.h aF.o.blk)
    have aU:=λ(x:qp ah)=>qc x.h aA.o
    have bk:=λx=>β0 (aU x);have bl:=λx=>β1 (aU x);clear aU
    have bZ: ∀x:qp ah,(Instr.lookup 91 (.map (some k.MS)) (θ #[ι I,ι o2]) false).run prog x.w'= .ok (γ p) x.w':=λx=>by
     have:=yf (aF.o.stm.more x.h) (I,o2) false;rw[bs.o] at this;exact this
    clear bP aX bQ bK
    go_upto_region 7 with fail
    (try rw[aK])
    clear aK bC c1;refine Qn ah 7 7 [] ?_
    refine Qq7 ?_
    refine qv ?_;clear bY bZ bk bl
    go_upto_region 8 with fail
    obtain⟨G,ba⟩:=ν (ah.drewN 1);have aw:Hid (qa ah G):=κ (by rw[<-ba];exact qa.drewN _ 1);have aG:=κ (aF.o.on aw.o);have ck:=κ (aF.o.at.stay aw.o)
    (try rw[ba])
    clear ba;obtain⟨bV,bg⟩:=ν (sj.wants (I,o2));have aT:=κ (λw' (m:qa G w')=>F9 (aG.o.on m) ak.o.1 I o2 aE.o);rw[bg] at aT;obtain⟨cz,bd⟩:=ν (vF sj.cfg.space sj.cfg.retry t.asks bV sj.clock);have au:=κ (λw'=>Ef sj.cfg.space sj.cfg.retry t.asks bV sj.clock ak.o.2.1.1 ak.o.2.1.2.1 ak.o.2.1.2.2 ak.o.2.2.2.1 ak.o.2.2.2.2.1 ak.o.2.2.2.2.2 ak.o.2.2.1 w');rw[bd] at au;obtain⟨⟨Y,N,O,U⟩,bi⟩:=cz;simp only at au;have bo:Hid (sj.tick1 (I,o2)=if bi then ({sj with strs:=qw sj.strs (I,o2) {t with asks:=⟨Y,N,O,U⟩}}:RmS).request (I,o2) else {sj with strs:=qw sj.strs (I,o2) {t with asks:=⟨Y,N,O,U⟩}}):=κ (by unfold RmS.tick1;rw[aE.o];simp only[bg,bd]);clear bg bd
    go_cut [6,7] from 32 to 51 (λcA cB ac=> ∃A,cA= γ A/\cB= μ bi/\ac.heap[A]? =some (.cells #[μ Y,N,ι O,ι U] 174 (0,0))/\qa G ac)
    case first=>
     have aH:=λ(x:qp G)=>qc x.h aG.o.blk
     have cF:=λx=>β4 (aH x);have cG:=λx=>β5 (aH x);have cH:=λx=>β9 (aH x);clear aH
     have av:=λ(x:qp G)=>qc (aw.o.trans x.h) bw.o.blk
     have cJ:=λx=>β3 (av x);have cK:=λx=>β4 (av x);have cL:=λx=>β5 (av x);have S6:=λx=>β6 (av x);clear av
     have aV:=λ(x:qp G)=>qc (aw.o.trans x.h) aA.o
     have bk:=λx=>β0 (aV x);have bl:=λx=>β1 (aV x);clear aV
     refine zC G 23 (.op 0 false (.op 1 false (.op 2 false (.op 3 false (.op 4 false (.op 5 false (.op 6 false (.op 7 false (.op 8 false (.op 9 false (.op 10 false (.op 12 false (.op 13 false (.op 14 false (.op 15 false (.br [11,20] λk=>if k=11 then .br [16,20] λk=>if k=16 then .op 17 false (.op 18 false (.op 19 false (.op 20 true (.op 21 true (.op 22 false (.done)))))) else .op 16 true (.op 17 false (.op 18 false (.op 19 false (.op 21 true (.op 22 false (.done)))))) else .op 11 true (.op 16 true (.op 17 false (.op 18 false (.op 19 false (.op 21 true (.op 22 false (.done))))))))))))))))))))))) ξ ξ ?_
     repeat (first | (refine jd rfl rfl (qj ρ) ?_) | (refine qE rfl rfl (qj ρ) ?_;intro K d;go_big_quiet_op;go_big_quiet_on))
     refine wR ζ ?_ ?_
     ·(refine qP rfl rfl ?_;intro K d;unfold jl;go_simp)
      refine(aT.o _ (qa.drewN G 1)).mono ?_;rintro e w5 ⟨rfl,bT⟩;have ax:Hid (qa G w5):=κ ((qa.drewN G 1).trans bT);clear bT;refine⟨_,rfl,qj ax.o,d _ _ ?_⟩;clear d K;refine wR ζ ?_ ?_
      ·(refine qP rfl rfl ?_;intro K d;unfold jl;go_simp)
       refine(au.o _).mono ?_;rintro e ac ⟨rfl,ap⟩;have ag:=κ (ax.o.trans ap);clear ap;refine⟨_,rfl,qj ag.o,d _ _ ?_⟩;clear d K
       repeat (first | (refine jd rfl rfl (qj ag.o) ?_) | (refine qE rfl rfl (qj ag.o) ?_;intro K d;go_big_quiet_op;go_big_quiet_on))
       (refine qP rfl rfl ?_;intro K d;unfold jl;go_simp)
       refine⟨qj (ag.o.al _),d _ _ ?_⟩;clear d K;obtain⟨A,ab⟩:=ν (ac.heap.size);obtain⟨w9,aN⟩:=ν (ac.alloc (.cells #[μ false,false,ι 0,ι 0] 174));have aj:Hid (w9.heap[A]? =some (.cells #[μ false,false,ι 0,ι 0] 174 (0,0))):=κ (by rw[<-aN,<-ab];exact qk ac _);have ad:Hid (qa G w9):=κ (by rw[<-aN];exact ag.o.al _);have aq:Hid (G.heap.size<=A):=κ (by rw[<-ab];exact ag.o.size)
       (try rw[aN])
       (try rw[ab])
       clear aN ab;refine qP rfl rfl ?_;intro K d;have H:=κ (ad.o.row aq.o #[μ Y,N,ι O,ι U]);have ae:=κ (jK aj.o #[μ Y,N,ι O,ι U]);refine jZ 174 (.tmp 6) (.tmp 50) rfl A 174 _ #[μ Y,N,ι O,ι U] aj.o rfl rfl ξ rfl (by simp[Value.oneCell']) ?_;refine⟨qj H.o,d _ _ ?_⟩;clear d K;go_simp
       repeat (first | (refine jd rfl rfl (qj H.o) ?_) | (refine qE rfl rfl (qj H.o) ?_;intro K d;go_big_quiet_op;go_big_quiet_on))
       refine ze ?_;go_wp2;go_meet;exact⟨A,rfl,rfl,ae.o,H.o⟩
      ·(refine qP rfl rfl ?_;intro K d;unfold jl;go_simp)
       refine⟨qj (ax.o.al _),d _ _ ?_⟩;clear d K;obtain⟨A,ab⟩:=ν (w5.heap.size);obtain⟨w8,ai⟩:=ν (w5.alloc (.cells #[μ false,false,ι 0,ι 0] 174));have aP:Hid (w8.heap[A]? =some (.cells #[μ false,false,ι 0,ι 0] 174 (0,0))):=κ (by rw[<-ai,<-ab];exact qk w5 _);have aI:Hid (qa G w8):=κ (by rw[<-ai];exact ax.o.al _);have aq:Hid (G.heap.size<=A):=κ (by rw[<-ab];exact ax.o.size)
       (try rw[ai])
       (try rw[ab])
       clear ai ab
       (refine qP rfl rfl ?_;intro K d;unfold jl;go_simp)
       refine(au.o _).mono ?_;rintro e w9 ⟨rfl,an⟩;have ad:=κ (aI.o.trans an);have aj:=κ (qc an aP.o);clear an;refine⟨_,rfl,qj ad.o,d _ _ ?_⟩;clear d K
       repeat (first | (refine jd rfl rfl (qj ad.o) ?_) | (refine qE rfl rfl (qj ad.o) ?_;intro K d;go_big_quiet_op;go_big_quiet_on))
       refine qP rfl rfl ?_;intro K d;have H:=κ (ad.o.row aq.o #[μ Y,N,ι O,ι U]);have ae:=κ (jK aj.o #[μ Y,N,ι O,ι U]);refine jZ 174 (.tmp 6) (.tmp 50) rfl A 174 _ #[μ Y,N,ι O,ι U] aj.o rfl rfl ξ rfl (by simp[Value.oneCell']) ?_;refine⟨qj H.o,d _ _ ?_⟩;clear d K;go_simp
       repeat (first | (refine jd rfl rfl (qj H.o) ?_) | (refine qE rfl rfl (qj H.o) ?_;intro K d;go_big_quiet_op;go_big_quiet_on))
       refine ze ?_;go_wp2;go_meet;exact⟨A,rfl,rfl,ae.o,H.o⟩
     ·(refine qP rfl rfl ?_;intro K d;unfold jl;go_simp)
      refine⟨qj ((qa.drewN G 1).al _),d _ _ ?_⟩;clear d K;obtain⟨ac,aO⟩: ∃ac:World,G.drewN 1=ac:=⟨_,rfl⟩;have ag:Hid (qa G ac):=κ (by rw[<-aO];exact qa.drewN G 1)
      (try rw[aO])
      (try rw[show G.heap.size=ac.heap.size from by rw[<-aO];rfl])
      clear aO;obtain⟨A,ab⟩:=ν (ac.heap.size);obtain⟨w8,ai⟩:=ν (ac.alloc (.cells #[μ false,false,ι 0,ι 0] 174));have aP:Hid (w8.heap[A]? =some (.cells #[μ false,false,ι 0,ι 0] 174 (0,0))):=κ (by rw[<-ai,<-ab];exact qk ac _);have aI:Hid (qa G w8):=κ (by rw[<-ai];exact ag.o.al _);have aq:Hid (G.heap.size<=A):=κ (by rw[<-ab];exact ag.o.size)
      (try rw[ai])
      (try rw[ab])
      clear ai ab
      (refine qP rfl rfl ?_;intro K d;unfold jl;go_simp)
      refine(aT.o _ aI.o).mono ?_;rintro e w6 ⟨rfl,ap⟩;have bz:=κ (aI.o.trans ap);have bX:=κ (qc ap aP.o);clear ap;refine⟨_,rfl,qj bz.o,d _ _ ?_⟩;clear d K
      (refine qP rfl rfl ?_;intro K d;unfold jl;go_simp)
      refine(au.o _).mono ?_;rintro e w9 ⟨rfl,an⟩;have ad:=κ (bz.o.trans an);have aj:=κ (qc an bX.o);clear an;refine⟨_,rfl,qj ad.o,d _ _ ?_⟩;clear d K
      repeat (first | (refine jd rfl rfl (qj ad.o) ?_) | (refine qE rfl rfl (qj ad.o) ?_;intro K d;go_big_quiet_op;go_big_quiet_on))
      refine qP rfl rfl ?_;intro K d;have H:=κ (ad.o.row aq.o #[μ Y,N,ι O,ι U]);have ae:=κ (jK aj.o #[μ Y,N,ι O,ι U]);refine jZ 174 (.tmp 6) (.tmp 50) rfl A 174 _ #[μ Y,N,ι O,ι U] aj.o rfl rfl ξ rfl (by simp[Value.oneCell']) ?_;refine⟨qj H.o,d _ _ ?_⟩;clear d K;go_simp
      repeat (first | (refine jd rfl rfl (qj H.o) ?_) | (refine qE rfl rfl (qj H.o) ?_;intro K d;go_big_quiet_op;go_big_quiet_on))
      refine ze ?_;go_wp2;go_meet;exact⟨A,rfl,rfl,ae.o,H.o⟩
    case rest=>
    obtain⟨A,rfl,rfl,bB,bR⟩:=hcut;have ae:=κ bB;have H:=κ bR;clear bB bR;have cm:=κ (aG.o.on H.o);have af:=κ (bw.o.on (aw.o.trans H.o));have a0:=β0 ae.o;have cN:=β1 ae.o;have cO:=β2 ae.o;have a3:=β3 ae.o;have dc:=β3 af.o.blk;have dd:=β4 af.o.blk;have de:=β5 af.o.blk;have df:=β6 af.o.blk;have cV:=qd af.o.blk 3;have cW:=qd af.o.blk 4;have cX:=qd af.o.blk 5;have cY:=qd af.o.blk 6;have aC:=κ (cm.o.strSet (t':={t with asks:=⟨Y,N,O,U⟩}) aE.o bs.o af.o ((((qg.set (S:=λb=>b=p) (qg.refl _ _) (p:=⟨p,3,none⟩) rfl (μ Y)).set (p:=⟨p,4,none⟩) rfl (μ N)).set (p:=⟨p,5,none⟩) rfl (ι O)).set (p:=⟨p,6,none⟩) rfl (ι U)) (qA (qo (qo (qo (qo af.o.blk 3 _) 4 _) 5 _) 6 _) rfl) rfl);have aJ:=κ (ck.o.trans ((aG.o.at.stay H.o).trans aC.o.2));obtain⟨cM,aZ⟩:=ν (((((wc.setCell ⟨p,3,none⟩ (μ Y)).setCell ⟨p,4,none⟩ (μ N)).setCell ⟨p,5,none⟩ (ι O)).setCell ⟨p,6,none⟩ (ι U)));rw[aZ] at aC aJ;have bj:=κ (aJ.o.blk η aA.o);have ay:=β0 bj.o;have cR:=β1 bj.o;cases bi with
    | false=>
     have aR:Hid (sj.tick1 (I,o2)={sj with strs:=qw sj.strs (I,o2) {t with asks:=⟨Y,N,O,U⟩}}):=κ (by rw[bo.o];rfl);go_wp2
     (try rw[aZ])
     go_roundw
     case rel=>exact⟨j+1,τ,by go_num,by rw[bu.o,List.foldl_append,bt.o];show qF w0 _ k (sj.tick1 (I,o2)) _;rw[aR.o];exact aC.o.1.sub (λb aa=>List.mem_append_right _ aa),aS.o.trans (bA.o.trans (aJ.o.sub (λb aa=>List.mem_append_right _ aa)))⟩
     case measure=>simp[intOf];omega
    | true=>
     have aR:Hid (sj.tick1 (I,o2)=({sj with strs:=qw sj.strs (I,o2) {t with asks:=⟨Y,N,O,U⟩}}:RmS).request (I,o2)):=κ (by rw[bo.o];rfl);have cd:=κ (Em aC.o.1 I o2 cg.o ce.o)
     go_wp2_with ((try rw[aZ]);(go_at_call 86;(go_call cd.o as e dk ⟨rfl,bF,bU⟩;have ca:=κ bF;have ci:=κ bU;clear bF bU)))
     go_roundw
     case rel=>exact⟨j+1,τ,by go_num,by rw[bu.o,List.foldl_append,bt.o];show qF w0 _ k (sj.tick1 (I,o2)) _;rw[aR.o];exact ca.o.sub (λb aa=>List.mem_append_right _ aa),aS.o.trans (bA.o.trans ((aJ.o.trans ci.o).sub (λb aa=>List.mem_append_right _ aa)))⟩
     case measure=>simp[intOf];omega
   ·obtain rfl:j=J.length:=by omega
    have cu: ¬(J.length:Int)<(J.length:Int):=by omega
    go_wp2;go_ret;exact⟨by rw[aD.o];rfl,by rw[aD.o];have:=aL;rw[List.take_length] at this;exact this.sub (λb aa=>List.mem_append_right _ aa),cj.o.trans (aS.o.sub (λb aa=>List.mem_append_right _ aa))⟩
end
end
section
open _root_.Go.Proofs.Tryz
section
open _root_.Go.Proofs.Tryz renaming func170->Ξa,ntmps170->Ξb
theorem LW {w:World} {v:Value} {l:List Int} (x:Int) (s:SlI .i64 w v l):Calls prog 170 #[v,ι x] w (Gw x l w):=Ψ8
end
theorem NA {w:World} {v:Value} {l:List Int} (x:Int) (s:SlI .i64 w v l):Calls prog 117 #[v,ι x] w λe w'=>e= .returned (μ (decide (x∈l)))/\w=w':=by
 go_enter func117,ntmps117
 go_wp2_with (go_at_call 170;(go_call LW x s as e w2 ⟨n,d,H,rfl,rfl⟩;have G:=κ d;clear d))
 go_ret;exact⟨jf (by rw[Bool.eq_iff_iff];simp only[decide_eq_true_eq];exact G.o),rfl⟩
def wkL (L M:List Int):List Og:=(0,0)::(1,0)::(M.filter λx=>decide (x∈L)).flatMap λx=>[(2,x),(3,x),(4,x)]
theorem WM (L M:List Int):(wkL L M).length<=2+3* M.length:=by
 unfold wkL;have h: ∀d:List Int,(d.flatMap λx=>[((2,x):Og),(3,x),(4,x)]).length=3* d.length:=by
  intro d
  induction d with
  | nil=>rfl
  | cons x d ih=>rw[List.flatMap_cons,List.length_append,ih,List.length_cons,List.length_cons,List.length_cons,List.length_cons,List.length_nil];omega
 have:=List.length_filter_le (λx=>decide (x∈L)) M;rw[List.length_cons,List.length_cons,h];omega
theorem Vp (L M:List Int) (x:Int):wkL L (M++[x])=wkL L M++if x∈L then [(2,x),(3,x),(4,x)] else []:=by
 unfold wkL;rw[List.filter_append,List.flatMap_append];by_cases h:x∈L
 ·rw[if_pos h];simp[h]
 ·rw[if_neg h];simp[h]
theorem Vu {j:Nat} (h:j<6):subIds.take (j+1)=subIds.take j++[(j:Int)]:=by
 have:j=0∨j=1∨j=2∨j=3∨j=4∨j=5:=by omega
 rcases this with rfl | rfl | rfl | rfl | rfl | rfl<;>rfl
theorem Uw (x:Int) {n:Nat} (h:n<3):([(2,x),(3,x),(4,x)]:List Og).take (n+1)=([(2,x),(3,x),(4,x)]:List Og).take n++[(((2+n:Nat):Int),x)]:=by
 have:n=0∨n=1∨n=2:=by omega
 rcases this with rfl | rfl | rfl<;>rfl
theorem Bb (w:World):qV 2 RO (λ_=>False) (w.alloc (.cells #[ι 0,ι 0,ι 1,ι 0] 37)) w.heap.size 37 (δ (some ⟨w.heap.size,0,none⟩) 2 2) [(0,0),(1,0)]:=
 ⟨⟨[ι 0,ι 0,ι 1,ι 0],⟨rfl,Or.inr ⟨w.heap.size,2,_,rfl,Nat.le_refl _,qk w _,Nat.le_refl _,by unfold maxLen;omega,rfl,rfl⟩⟩,λi hi=>λw' _=>by
  have:i=0∨i=1:=by simp at hi;omega
  rcases this with rfl | rfl<;>rfl⟩,λb _ h=>h⟩
theorem KN {w:World} {v:Value} {L:List Int} (s:SlI .i64 w v L):
  Calls prog 71 #[v] w λe w'=> ∃v',e= .returned v'/\qV 2 RO (λ_=>False) w' w.heap.size 37 v' (yt L)/\qa w w':=by
 obtain⟨aB,hi,aw,ax,ay⟩:=info_parts (P:=prog) (e:=37) (z:= θ #[ι 0,ι 0]) (size:=2) (bytes:=16) ξ;have ak:=κ s;obtain⟨aI,cap,rfl,_⟩:=id s;have e0:yt L=wkL L (subIds.take 6):=rfl;rw[e0];have ao:=κ (qa.alloc w (.cells #[ι 0,ι 0,ι 1,ι 0] 37));have aq:=κ (Bb w);clear s e0
 go_enter func71,ntmps71
 go_wp2
 go_loopw [3,9] (λu ad wr=> ∃i:Nat,i<=6/\ad= ι i/\(∃J I H,u= δ J I H)/\qV 2 RO (λ_=>False) wr w.heap.size 37 u (wkL L (subIds.take i))/\qa w wr) (λ_ ad _=>6-(intOf ad).toNat)
 case atStart=>exact⟨0,τ,rfl,⟨_,_,_,rfl⟩,aq.o,ao.o⟩
 case round=>
  obtain⟨i,aF,rfl,⟨J,I,H,rfl⟩,U,O⟩:=hrel;have G:=κ U;have d:=κ O;clear U O;by_cases hlt:i<6
  ·have au:(i:Int)<6:=by omega
   have ae:=κ (Vu hlt);have af:=κ (WM L (subIds.take i));have an:Hid ((subIds.take i).length=i):=κ (by rw[List.length_take];show min i 6=i;omega);have aa:=κ (NA (i:Int) (ak.o.keep d.o));obtain⟨c,N⟩:=ν (decide ((i:Int)∈L));rw[N] at aa;cases c with
   | false=>
    have Y:Hid (wkL L (subIds.take (i+1))=wkL L (subIds.take i)):=κ (by rw[ae.o,Vp,if_neg (of_decide_eq_false N),List.append_nil]);clear N
    go_wp2_with (go_at_call 117;(go_call aa.o as e w2 ⟨rfl,ab⟩;obtain rfl:=ab))
    go_roundw
    case rel=>exact⟨i+1,τ,by go_num,⟨_,_,_,rfl⟩,by rw[Y.o];exact G.o,d.o⟩
    case measure=>simp[intOf];omega
   | true=>
    have Y:Hid (wkL L (subIds.take (i+1))=wkL L (subIds.take i)++[(2,(i:Int)),(3,(i:Int)),(4,(i:Int))]):=κ (by rw[ae.o,Vp,if_pos (of_decide_eq_true N)]);clear N;obtain⟨B,ag⟩:=ν (wkL L (subIds.take i));rw[ag] at Y af G;clear ag
    go_wp2_with (go_at_call 117;(go_call aa.o as e w2 ⟨rfl,ab⟩;obtain rfl:=ab))
    go_loopw [3,5] (λu st wr=> ∃n:Nat,n<=3/\st= ι ((2+n:Nat):Int)/\(∃J I H,u= δ J I H)/\qV 2 RO (λ_=>False) wr w.heap.size 37 u (B++([(2,(i:Int)),(3,(i:Int)),(4,(i:Int))]:List Og).take n)/\qa w wr) (λ_ st _=>5-(intOf st).toNat)
    case atStart=>exact⟨0,τ,rfl,⟨_,_,_,rfl⟩,by rw[List.take_zero,List.append_nil];exact G.o,d.o⟩
    case round=>
     clear G d;obtain⟨n,aG,rfl,⟨J,I,H,rfl⟩,U,O⟩:=hrel;have G:=κ U;have d:=κ O;clear U O;by_cases hltn:n<3
     ·have av:((2+n:Nat):Int)<=4:=by omega
      have am:=κ (Uw (i:Int) hltn);have ai:Hid (∀b,(δ J I H).ownBlock=some b->w.heap.size<=b):=κ (λb h=>G.o.ge h);have aD:(B++([(2,(i:Int)),(3,(i:Int)),(4,(i:Int))]:List Og).take n).length<=23:=by
       have:=af.o;have:=an.o;rw[List.length_append,List.length_take];show B.length+min n 3<=23;omega
      have aj:=κ (G.o.on (qa.alloc wr (.cells #[ι ((2+n:Nat):Int),ι (i:Int)] 37)))
      go_wp2_with (at_builtin;(refine jj (R:=RO) (D:=λ_=>False) _ rfl (.tmp 20) (.tmp 24) 98 rfl w.heap.size 37 aB (θ #[ι 0,ι 0]) 2 16 underlying98 hi aw ax ay rfl ζ _ (B++([(2,(i:Int)),(3,(i:Int)),(4,(i:Int))]:List Og).take n) rfl aj.o wr.heap.size [ι ((2+n:Nat):Int),ι (i:Int)] (((2+n:Nat):Int),(i:Int)) rfl rfl (xO η) (by simp[Value.oneCell']) (λw' _=>rfl) (λb h=>h.elim) ζ τ (d.o.al _).size ?_;intro v' w8 ac ah ar;have aC:Hid (qa w w8):=κ (Below.grown (d.o.al _) ah (d.o.al _).size ai.o);obtain⟨aJ,aH,aE,rfl,az,aA⟩:=ac.shape;have ap:=κ ac;clear ac ah ar az aA))
      go_roundw
      case rel=>exact⟨n+1,τ,by go_num,⟨_,_,_,rfl⟩,by rw[am.o,<-List.append_assoc];exact ap.o,aC.o⟩
      case measure=>simp[intOf];omega
     ·obtain rfl:n=3:=by omega
      have av: ¬((2+3:Nat):Int)<=4:=by omega
      go_wp2;go_roundw
      case rel=>exact⟨i+1,τ,by go_num,⟨_,_,_,rfl⟩,by rw[Y.o];exact G.o,d.o⟩
      case measure=>simp[intOf];omega
  ·obtain rfl:i=6:=by omega
   have au: ¬((6:Nat):Int)<6:=by omega
   go_wp2;go_ret;exact⟨_,rfl,G.o,d.o⟩
theorem GQ:prog.eqGuardType prog.depth 37=false:=by kernel_rfl
theorem EJ (d G H I:Int) (w:World):(binOp .eql 37 (θ #[ι d,ι G]) (θ #[ι H,ι I])).run prog w= .ok (μ (decide (((d,G):Og)=(H,I)))) w:=by
 have h:(Op.equalIn 10000 37 (θ #[ι d,ι G]) (θ #[ι H,ι I])).run prog w= .ok (decide (((d,G):Og)=(H,I))) w:=Z8 (d,G) (H,I) w;rw[run_eql_struct,h];rfl
def ZB (w:World) (oa:Option Addr) (L:List Og):Prop:=L.length<=maxLen/\ ∀w',qa w w'-> ∀i (hi:i<L.length),∃b,oa=some ⟨b,0,none⟩/\w'.cell? ⟨b,i* 2,none⟩=some (.int .i64 L[i].1)/\w'.cell? ⟨b,i* 2+1,none⟩=some (.int .i64 L[i].2)
theorem WC {w:World} {v:Value} {L:List Og} {base:Nat} (h:qV 2 RO (λ_=>False) w base 37 v L): ∃oa cap,v= δ oa L.length cap/\ZB w oa L:=by
 obtain⟨⟨xs,d,r⟩,_⟩:=h;rcases id d.2 with ⟨rfl,H⟩ | ⟨b,cap,cur,rfl,J,I,N,O,_⟩
 ·exact⟨none,0,by rw[H],by rw[H];exact Nat.zero_le _,λw' _ i hi=>by omega⟩
 ·refine⟨_,cap,rfl,τ,λw' m i hi=>⟨b,rfl, ?_, ?_⟩⟩
  ·have e:(xs.drop (i* 2)).take 2=[ι L[i].1,ι L[i].2]:=(r i hi).read;have e0:=congrArg (λl:List Value=>l[0]?) e;simp at e0;rw[m.cells _ _ (lt_of_block I),d.cellAt _ τ];exact e0
  ·have e:(xs.drop (i* 2)).take 2=[ι L[i].1,ι L[i].2]:=(r i hi).read;have G:=congrArg (λl:List Value=>l[1]?) e;simp at G;rw[m.cells _ _ (lt_of_block I),d.cellAt _ τ];exact G
theorem LU {w:World} {al:Option Addr} {cap:Nat} {L:List Og} (d G:Int) (h:ZB w al L):
  Calls prog 118 #[δ al L.length cap,θ #[ι d,ι G]] w λe w'=> ∃n:Int,(0<=n↔(d,G)∈L)/\ -1<=n/\e= .returned (ι n)/\qa w w':=by
 obtain⟨az,aj⟩:=h;have N:=κ aj;unfold maxLen at az;obtain⟨W1,J⟩:=ν (w.alloc (.cells #[ι d,ι G] 37));have I:Hid (qa w W1):=κ (by rw[<-J];exact qa.alloc _ _);have an:Hid (W1.heap[w.heap.size]? =some (.cells #[ι d,ι G] 37 (0,0))):=κ (by rw[<-J];exact qk w _);have aA:=GQ;clear aj
 go_enter func118,ntmps118
 go_wp2
 (try rw[J])
 clear J
 go_loopw [8] (λY wr=> ∃k:Nat,k<=L.length/\Y= ι k/\(d,G)∉L.take k/\qa W1 wr) (λY _=>L.length-(intOf Y).toNat)
 case atStart=>exact⟨0,τ,rfl,η,qa.refl _⟩
 case round=>
  obtain⟨j,aB,rfl,ai,ah⟩:=hrel;have ad:=κ ai;have H:=κ ah;clear ai ah;by_cases hlt:j<L.length
  ·have ay:(j:Int)<(L.length:Int):=by omega
   obtain⟨b,rfl,_,_⟩:=N.o _ (I.o.trans H.o) j hlt;have ak:L.take (j+1)=L.take j++[L[j]]:=List.take_succ_eq_append_getElem hlt;have ar:=κ ak;have aq:=κ (List.getElem_mem hlt);have af: ∀x:qp wr,x.w'.cell? ⟨b,j* 2,none⟩=some (ι (L[j]).1):=λx=>by
    obtain⟨av,e,aw,_⟩:=N.o x.w' (I.o.trans (H.o.trans x.h)) j hlt;injection e with e
    injection e with e
    subst e;exact aw
   have ag: ∀x:qp wr,x.w'.cell? ⟨b,j* 2+1,none⟩=some (ι (L[j]).2):=λx=>by
    obtain⟨av,e,_,ax⟩:=N.o x.w' (I.o.trans (H.o.trans x.h)) j hlt;injection e with e
    injection e with e
    subst e;exact ax
   clear ak;generalize L[j]=y at *;obtain⟨aa,ab⟩:=y;simp only at af ag;have O:=λ(x:qp wr)=>qc (H.o.trans x.h) an.o
   have ao:=λx=>β0 (O x);have ap:=λx=>β1 (O x);clear O
   obtain⟨c,U⟩:=ν (decide (((d,G):Og)=(aa,ab)));have am:=λw=>EJ d G aa ab w
   rw[U] at am;have ac:=κ U;clear U
   go_upto_region 4 with fail
   refine Qn wr 6 6 [] ?_
   refine Qq6 ?_
   refine qv ?_;clear ao ap af ag am;have ae:=κ (qa.drewN wr 1);cases c with
   | true=>
    have e:((d,G):Og)=(aa,ab):=of_decide_eq_true ac.o;have au:Hid ((d,G)∈L):=κ (by rw[e];exact aq.o);clear e;go_wp2;go_ret;exact⟨j,⟨λ_=>au.o,λ_=>by omega⟩,τ,rfl,I.o.trans (H.o.trans ae.o)⟩
   | false=>
    go_wp2;go_roundw
    case rel=>exact⟨j+1,τ,by go_num,by rw[ar.o,List.mem_append,List.mem_singleton];exact λh=>h.elim ad.o (of_decide_eq_false ac.o),H.o.trans ae.o⟩
    case measure=>simp[intOf];omega
  ·obtain rfl:j=L.length:=by omega
   have ay: ¬(L.length:Int)<(L.length:Int):=by omega
   go_wp2;go_ret;refine⟨-1,⟨λh=>by omega,λh=> ?_⟩,τ,rfl,I.o.trans H.o⟩;have:=ad.o;rw[List.take_length] at this;exact absurd h this
theorem Nz {w:World} {H:Option Addr} {cap:Nat} {L:List Og} (d G:Int) (h:ZB w H L):
  Calls prog 72 #[δ H L.length cap,θ #[ι d,ι G]] w λe w'=>e= .returned (μ (decide ((d,G)∈L)))/\qa w w':=by
 have I:=κ (qk w (.cells #[ι d,ι G] 37));have aa:=β0 I.o;have ab:=β1 I.o;have O:=κ (LU (w:=w.alloc (.cells #[ι d,ι G] 37)) (cap:=cap) d G (⟨h.1,λw' m=>h.2 w' ((qa.alloc _ _).trans m)⟩:ZB _ H L));clear h
 go_enter func72,ntmps72
 go_wp2_with (go_at_call 118;(go_call O.o as e w2 ⟨n,J,ac,rfl,N⟩;have U:=κ J;have Y:=κ N;clear J N))
 go_ret;exact⟨jf (by rw[Bool.eq_iff_iff];simp only[decide_eq_true_eq];exact U.o),(qa.alloc _ _).trans Y.o⟩
end
end Go.Proofs.YtlmllmonabafjaaGreatDoor
