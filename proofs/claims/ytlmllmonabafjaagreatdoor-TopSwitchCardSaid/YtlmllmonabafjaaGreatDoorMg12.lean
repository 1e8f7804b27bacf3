/- x -/
import Derived.Test.YtlmllmonabafjaaGreatDoorMg11
import Derived.ChangeKeysEq
import Derived.Laws.IdiomStrings
import Derived.Defers
import Derived.Recover
import Derived.Laws.Concat
namespace Go.Proofs.YtlmllmonabafjaaGreatDoor
open Option renaming some->ϊ,none->ϋ
open Bool renaming true->ό,false->ύ
open Go.Value renaming bool->μ,slice->δ,pointer->π,agg->θ
open Go.IntKind renaming i64->ι,u8->υ,u16->φ,u32->ω,i32->χ,u64->ψ
set_option linter.all false
set_option maxHeartbeats 8000000
open Go.RowKit
set_option maxRecDepth 100000
open _root_.Go.Proofs.Tryz
variable {s s':RmS} {w w' w1 I:World} {F:List Nat} {n R W B cap pb i:Nat} {x k a d sq:Int} {c:CfR} {α:Type} {f:RmS->α->RmS} {sf:Og->Option Int} {o:Og} {T:Nat->Tg} {p:Pk} {b:List Int} {L:List ByteArray} {t:TS} {l:LnS} {H:Option Addr} {cs:List Value} {v:Value} {G:Int->Int}
def jp (s:RmS) (o:Og):Nat:=match qm s.strs o with
 | some t=>t.buf.holds.length
 | none=>0
def yw (s:RmS):Nat:=(orgs.map (jp s)).sum
def GR {f g:α->Nat} {a:α} (I:g a+1=f a) (G: ∀b,b≠a->g b=f b): ∀(L:List α),L.Nodup->(L.map g).sum<=(L.map f).sum/\(a∈L->(L.map g).sum+1=(L.map f).sum)/\(a∉L->(L.map g).sum=(L.map f).sum)
 | [],_=>⟨ϕ _,λh=>(by cases h),λ_=>rfl⟩
 | b::L,hn=>by
  rw[E0] at hn;obtain⟨J,H,d⟩:=GR I G L hn.2;simp only[ϡ,List.sum_cons,ϫ,not_or];by_cases e:b=a
  ·subst e;have:=d hn.1;exact⟨τ,λ_=>by omega,λh=>(h.1 rfl).elim⟩
  ·have:=G b e;refine⟨τ,λh=> ?_,λh=> ?_⟩
   ·have:=H (h.resolve_left λq=>e q.symm);omega
   ·have:=d h.2;omega
structure OnH (Wk:List Og) (s:RmS):Prop where
 closed:s.closed=ύ
 workers:s.workers=Wk
 queue:s.queue=[]
 org: ∀o t,qm s.strs o=ϊ t->o∈orgs
 wait: ∀o t,qm s.strs o=ϊ t-> ∀h∈t.buf.holds,xY t.buf s.clock h=ό
def wX (d:ItS): ∀(L:List Int) (s:RmS),(L.foldl (RmS.put1 d) s).strs=s.strs
 | [],s=>rfl
 | x::L,s=>(wX d L (s.put1 d x)).trans (Yp d x).1
def OnH.order {Y:List Og} (h:OnH Y s):OnH Y s.order/\(0<yw s->yw s.order<yw s)/\yw s.order<=yw s:=by
 have N:=OpP.loc (zd s);have ae:=(zd s).queue;cases hy:s.ready with
 | none=>
  have e:s.order=s:=by unfold RmS.order;rw[hy]
  rw[e];refine⟨h,λah=> ?_,ϕ _⟩;exfalso;have: ∀o∈orgs,jp s o=0:=λo J=>by
   unfold jp;cases ht:qm s.strs o with
   | none=>rfl
   | some t=>
    simp only;cases hb:t.buf.holds with
    | nil=>rfl
    | cons y T=>
     exfalso;unfold RmS.ready at hy;rw[Q5] at hy;refine hy o ?_ ?_
     ·unfold RmS.origins;rw[G2];exact⟨J,by rw[ht];rfl⟩
     ·unfold RmS.readyAt;rw[ht];have af:=h.wait o t ht y (by rw[hb];exact ϣ);simp only;unfold jU;rw[hb];simp[af]
  have z:yw s=0:=by
   unfold yw;rw[N3];intro n ad;obtain⟨o,J,rfl⟩:=C1.1 ad;exact this o J
  omega
 | some o=>
  have d:=P0 hy;unfold RmS.readyAt at d;cases ht:qm s.strs o with
  | none=>rw[ht] at d;cases d
  | some t=>
   rw[ht] at d;simp only at d;have G:s.order.strs=qB s.strs o {t with buf:=(zP t.buf s.clock).1}:=by
    unfold RmS.order;rw[hy];simp only;rw[ht];simp only;unfold RmS.orderAt;rw[wX]
   cases hb:t.buf.holds with
   | nil=>unfold jU at d;rw[hb] at d;cases d
   | cons y T=>
    have I:(zP t.buf s.clock).1=jV t.buf:=by unfold zP;rw[hb];simp only;rw[ϒ d]
    have aa:(jV t.buf).holds=T:=by unfold jV;rw[hb]
    have ab: ∀O x,xY (jV t.buf) O x=xY t.buf O x:=λO x=>by unfold xY jV;rw[hb]
    refine⟨⟨N.closed.trans h.closed,N.workers.trans h.workers,ae.trans h.queue,λU t' e=> ?_,λU t' e k H=> ?_⟩, ?_⟩
    ·rw[G,qE] at e;split at e
     ·rename_i c;rw[c];exact h.org o t ht
     ·exact h.org U t' e
    ·rw[N.clock];rw[G,qE] at e;split at e
     ·injection e with e
      subst e;simp only at H ⊢;rw[I,aa] at H;rw[I,ab];exact h.wait o t ht k (by rw[hb];exact Ϧ _ H)
     ·exact h.wait U t' e k H
    ·obtain⟨ai,ag,_⟩:=GR (f:=jp s) (g:=jp s.order) (a:=o) (by
      unfold jp;rw[G,qE,ϒ rfl,ht];simp only;rw[I,aa,hb,Ϙ]) (λb ac=>by
      unfold jp
      rw[G,qE,ώ ac]) orgs ζ
     have:=ag (h.org o t ht);unfold yw;exact⟨λ_=>by omega,τ⟩
def OnH.pick {J:List Og} (h:OnH J s) (w:Og):OnH J (s.pick w ό).1/\yw (s.pick w ό).1<=yw s/\(w=(1,0)->0<yw s->yw (s.pick w ό).1<yw s):=by
 obtain⟨w1,w2⟩:=w;have d:=(zJ h.closed (w1,w2) ό).1;have N: ∀s',OpP s s'->s'.queue=s.queue->s'.strs=s.strs->OnH J s'/\yw s'<=yw s:=λs' k H I=>by
  refine⟨⟨k.closed.trans h.closed,k.workers.trans h.workers,H.trans h.queue,λo t e=>h.org o t (by rw[<-I];exact e),λo t e x Y=>by rw[k.clock];exact h.wait o t (by rw[<-I];exact e) x Y⟩, ?_⟩;have:jp s'=jp s:=by funext o;unfold jp;rw[I]
  unfold yw;rw[this];exact ϕ _
 by_cases ho:(w1,w2)=((1,0):Og)
 ·rw[ho] at d ⊢;unfold RmS.pick;have:((1,0):Og)∈s.workers:=mem_workers.2 (ϓ (ϐ rfl));split
  ·have e:s.stepW (1,0) ό=s.order:=by unfold RmS.stepW;rw[ώ (by rw[h.closed];decide)];rfl
   rw[e];obtain⟨a,b,c⟩:=h.order;exact⟨a,c,λ_=>b⟩
  ·rename_i G;refine⟨h,ϕ _,λ_ aa=> ?_⟩;exfalso;unfold RmS.may at G;rw[Ϩ this,ώ (by rw[h.closed];decide)] at G;unfold RmS.mayOpen at G;simp only[Ψ,ώ (by decide: ¬(1:Int)=0),E8] at G;have O:s.ready=ϋ:=by
    cases hr:s.ready with
    | none=>rfl
    | some o=>rw[hr] at G;exact(G rfl).elim
   have:=h.order.2.1 aa;have e:s.order=s:=by unfold RmS.order;rw[O]
   rw[e] at this;omega
 ·have key:OnH J (s.pick (w1,w2) ό).1/\yw (s.pick (w1,w2) ό).1<=yw s:=by
   unfold RmS.pick at d ⊢;split
   ·rename_i G;rw[ϒ G] at d;unfold RmS.may at G;rw[Φ] at G;have U:=mem_workers.1 (Ϛ G.1);unfold RmS.stepW at d ⊢;rw[ώ (by rw[h.closed];decide)] at d ⊢;rcases U with e | e | ⟨H,_,_⟩
    ·injection e with H I
     subst H;subst I;have:s.read=s:=by unfold RmS.read;rw[h.queue]
     simp only[Ψ,this] at d ⊢;exact⟨h,ϕ _⟩
    ·exact(ho e).elim
    ·simp only at H;rcases H with rfl | rfl | rfl
     ·simp only[Ψ,ώ (by decide: ¬(2:Int)=0),ώ (by decide: ¬(2:Int)=1)] at d ⊢;exact N _ d (xv s w2).queue (by unfold RmS.choose;cases qm s.lanes w2<;>rfl)
     ·simp only[Ψ,ώ (by decide: ¬(3:Int)=0),ώ (by decide: ¬(3:Int)=1),ώ (by decide: ¬(3:Int)=2)] at d ⊢;exact N _ d (j6 s w2).queue (by unfold RmS.rewrite;cases qm s.lanes w2<;>rfl)
     ·simp only[ώ (by decide: ¬(4:Int)=0),ώ (by decide: ¬(4:Int)=1),ώ (by decide: ¬(4:Int)=2),ώ (by decide: ¬(4:Int)=3)] at d ⊢;exact N _ d (kR s w2 ό).2 (by unfold RmS.write;cases qm s.lanes w2<;>rfl)
   ·exact⟨h,ϕ _⟩
  exact⟨key.1,key.2,λe=>(ho e).elim⟩
def PZ {H:List Og} (h:OnH H s) (d:List (List Og)) (J: ∀L∈d,((1,0):Og)∈L):OnH H (s.picks ό d.flatten)/\yw (s.picks ό d.flatten)<=yw s-d.length:=
 uT (step:=λs w=>(RmS.pick s w ό).1) (Inv:=OnH H) (f:=yw) (P:=λt v=>v=(1,0)/\0<yw t)
  (λt v h=>(h.pick v).1) (λt v h=>(h.pick v).2.1)
  (λt v u h G=>by
   have:=(h.pick v).2.1;by_cases c:yw (t.pick v ό).1<yw t
   ·exact ϐ c
   ·exact ϓ ⟨G.1,τ⟩)
  (λt v h G=>(h.pick v).2.2 G.1 G.2)
  [(1,0)] (λt h O=>⟨(1,0),Γ.2 rfl,rfl,O⟩) d s h (λL N u I=>by rw[Γ] at I;rw[I];exact J L N)
def OnH.onL {G:List Og} (h:OnH G s) (d:yw s=0):OnL G s:=⟨h.closed,h.workers,h.queue,λo t H=>by
 unfold yw at d;rw[N3] at d;have:=d (jp s o) (C1.2 ⟨o,h.org o t H,rfl⟩);unfold jp at this;rw[H] at this
 exact A4.1 this⟩
structure BfK (c:CfR) (now:Int) (b:Jb):Prop where
 wait:b.wait=c.wait
 room:b.room=c.hold
 len:(b.holds.length:Int)<=c.hold
 at': ∀h∈b.holds,h.2.1<=now
def uM (s:RmS):Prop:= ∀o t,qm s.strs o=ϊ t->BfK s.cfg s.clock t.buf
def BfK.push {G:Int} {b:Jb} (h:BfK c G b) (n x:Int):BfK c G (jB b n G x).1:=by
 unfold jB;split
 ·exact h
 ·split
  ·exact h
  ·split
   ·exact h
   ·rename_i H;refine⟨h.wait,h.room, ?_,λk d=> ?_⟩
    ·simp only;rw[KF];have:=h.room;omega
    ·rcases(QI _ _ _).1 d with rfl | d
     ·exact T9 _
     ·exact h.at' k d
def BfK.least {b:Jb} (h:BfK c d b):BfK c d (jV b):=by
 unfold jV;cases hb:b.holds with
 | nil=>exact h
 | cons y T=>
  have:=h.len;rw[hb,Ϙ] at this;exact⟨h.wait,h.room,by simp only;omega,λk G=>h.at' k (by rw[hb];exact Ϧ _ G)⟩
def BfK.pop {b:Jb} (h:BfK c d b) (n:Int):BfK c d (zP b n).1:=by
 unfold zP;cases b.holds with
 | nil=>exact h
 | cons y T=>
  simp only;split
  ·exact h.least
  ·exact h
def BfK.later {G:Int} {b:Jb} (h:BfK c d b) (I:d<=G):BfK c G b:=⟨h.wait,h.room,h.len,λk H=>Int.le_trans (h.at' k H) I⟩
def SmB (s s':RmS):Prop:= ∀o t',qm s'.strs o=ϊ t'-> ∃t,qm s.strs o=ϊ t/\t'.buf=t.buf
def SmB.refl (s:RmS):SmB s s:=λo t h=>⟨t,h,rfl⟩
def SmB.trans {s'':RmS} (h:SmB s s') (k:SmB s' s''):SmB s s'':=λo t e=>by
 obtain⟨t1,a,b⟩:=k o t e;obtain⟨t2,c,d⟩:=h o t1 a;exact⟨t2,c,b.trans d⟩
def SmB.fold (d: ∀s x,SmB s (f s x)): ∀(L:List α) (s:RmS),SmB s (L.foldl f s)
 | [],s=>SmB.refl s
 | x::L,s=>(d s x).trans (SmB.fold d L (f s x))
def SmB.put {t t':zX} (H:qm s.strs o=ϊ t) (e:s'.strs=qB s.strs o t') (G:t'.buf=t.buf):SmB s s':=λI u d=>by
 rw[e,qE] at d;split at d
 ·rename_i c;injection d with d
  subst d;exact⟨t,by rw[c];exact H,G⟩
 ·exact⟨u,d,rfl⟩
def SmB.of (e:s'.strs=s.strs):SmB s s':=λo t h=>⟨t,by rw[<-e];exact h,rfl⟩
def SmB.ok (h:SmB s s') (H:uM s) (d:s'.cfg=s.cfg) (G:s.clock<=s'.clock):uM s':=λo t I=>by
 obtain⟨t1,a,b⟩:=h o t I;rw[b,d];exact(H o t1 a).later G
def Df (s:RmS) (x:Int):SmB s (s.tell1 x):=by
 unfold RmS.tell1;split
 ·exact SmB.refl s
 ·split
  ·split
   ·exact SmB.refl s
   ·split
    ·split
     ·exact SmB.refl s
     ·rename_i t d;exact SmB.put d rfl rfl
    ·exact SmB.refl s
  ·exact SmB.refl s
def De (s:RmS) (o:Og):SmB s (s.tick1 o):=by
 unfold RmS.tick1;cases ht:qm s.strs o with
 | none=>exact SmB.refl s
 | some t=>
  simp only;split
  ·exact SmB.put ht (t':={t with asks:=(vY s.cfg.space s.cfg.retry t.asks (s.wants o) s.clock).1}) rfl rfl
  ·exact SmB.put ht rfl rfl
def uM.step (h:uM s) (G:s.closed=ύ) (w:Og) (acc:Bool):uM (s.stepW w acc):=by
 unfold RmS.stepW;rw[ώ (by rw[G];decide)];split
 ·unfold RmS.read;cases hq:s.queue with
  | nil=>exact h
  | cons b q=>
   simp only;split
   ·unfold RmS.tell;split
    ·have k:=wQ (xR (zv b).1) {{s with queue:=q} with cnt:={s.cnt with told:=s.cnt.told+1}};exact(SmB.fold (f:=RmS.tellS) (λs src=>SmB.fold (f:=RmS.tell1) Df _ s) _ _).ok (s:={{s with queue:=q} with cnt:={s.cnt with told:=s.cnt.told+1}}) h k.cfg (T1 k.clock.symm)
    ·exact h
   ·unfold RmS.media;split
    ·cases qm ({s with queue:=q}:RmS).tab.o (jS b).1.sc with
     | none=>exact h
     | some o=>
      simp only;unfold RmS.accept;cases ht:qm ({s with queue:=q}:RmS).strs o with
      | none=>exact h
      | some t=>
       intro d t' e;simp only at e;rw[qE] at e;split at e
       ·injection e with e
        subst e;exact(h o t ht).push _ _
       ·exact h d t' e
    ·exact h
 ·split
  ·have k:=zd s;unfold RmS.order at k ⊢;cases hy:s.ready with
   | none=>exact h
   | some o=>
    rw[hy] at k;simp only at k ⊢;cases ht:qm s.strs o with
    | none=>exact h
    | some t=>
     rw[ht] at k;simp only at k ⊢;intro d t' e;rw[k.cfg,k.clock];unfold RmS.orderAt at e;rw[wX] at e;simp only at e;rw[qE] at e;split at e
     ·injection e with e
      subst e;exact(h o t ht).pop _
     ·exact h d t' e
  ·split
   ·exact(SmB.of (by unfold RmS.choose;cases qm s.lanes w.2<;>rfl)).ok h (xv s w.2).cfg (T1 (xv s w.2).clock.symm)
   ·split
    ·exact(SmB.of (by unfold RmS.rewrite;cases qm s.lanes w.2<;>rfl)).ok h (j6 s w.2).cfg (T1 (j6 s w.2).clock.symm)
    ·exact(SmB.of (by unfold RmS.write;cases qm s.lanes w.2<;>rfl)).ok h (kR s w.2 acc).1.cfg (T1 (kR s w.2 acc).1.clock.symm)
def uM.pick (h:uM s) (d:s.closed=ύ) (w:Og) (acc:Bool):uM (s.pick w acc).1:=by
 unfold RmS.pick;split
 ·exact h.step d w acc
 ·exact h
def uM.picks (acc:Bool): ∀(L:List Og) {s:RmS},uM s->s.closed=ύ->uM (s.picks acc L)/\OpP s (s.picks acc L)
 | [],s,h,_=>⟨h,⟨rfl,λ_=>rfl,rfl,rfl⟩⟩
 | w::L,s,h,hc=>by
  have k:=(zJ hc w acc).1;obtain⟨a,b⟩:=uM.picks acc L (h.pick hc w acc) (k.closed.trans hc);exact⟨a,⟨b.closed.trans k.closed,λx=>(b.there x).trans (k.there x),b.cfg.trans k.cfg,b.clock.trans k.clock⟩⟩
def RmS.tickN (s:RmS):Nat->RmS
 | 0=>s
 | n+1=>(s.tick.1).tickN n
def Jl (d:s.closed=ύ):s.tick.2=0/\s.tick.1.closed=ύ/\s.tick.1.clock=s.clock+1/\SmB s s.tick.1/\s.tick.1.cfg=s.cfg/\s.tick.1.lanes=s.lanes/\s.tick.1.queue=s.queue/\s.tick.1.book=s.book/\s.tick.1.pks=s.pks:=by
 unfold RmS.tick;rw[ώ (by rw[d];decide)];have k:=kM s.origins {s with clock:=s.clock+1};refine⟨rfl, ?_,k.clock, ?_,k.cfg,k.lanes,k.queue,k.book,k.pks⟩
 ·exact(XZ s.origins {s with clock:=s.clock+1}).2.trans d
 ·have:=SmB.fold (f:=RmS.tick1) De s.origins {s with clock:=s.clock+1};exact this
def yP: ∀(n:Nat) {s:RmS},s.closed=ύ->(s.tickN n).closed=ύ/\(s.tickN n).clock=s.clock+n/\SmB s (s.tickN n)/\(s.tickN n).cfg=s.cfg/\(s.tickN n).lanes=s.lanes/\(s.tickN n).queue=s.queue/\(s.tickN n).book=s.book/\(s.tickN n).pks=s.pks
 | 0,s,hc=>⟨hc,by simp[RmS.tickN],SmB.refl s,rfl,rfl,rfl,rfl,rfl⟩
 | n+1,s,hc=>by
  obtain⟨_,d,G,a3,a4,a5,H,I,J⟩:=Jl hc;obtain⟨N,O,U,Y,aa,ab,ac,ad⟩:=yP n (s:=s.tick.1) d;refine⟨N, ?_,a3.trans U,Y.trans a4,aa.trans a5,ab.trans H,ac.trans I,ad.trans J⟩;have:(s.tickN (n+1)).clock=(s.tick.1.tickN n).clock:=rfl;rw[this,O,G];omega
def Gc (ab:s.closed=ύ) (ad:s.queue=[]) (H:uM s) (ac: ∀o t,qm s.strs o=ϊ t->o∈orgs) (n:Nat) (ah:s.cfg.wait<=n):OnH s.workers (s.tickN n)/\yw (s.tickN n)<=9* s.cfg.hold.toNat:=by
 obtain⟨J,N,G,ae,O,U,af,ag⟩:=yP n ab;refine⟨⟨J,QS (λx=>by rw[O]),U.trans ad,λo t d=> ?_,λo t d x I=> ?_⟩, ?_⟩
 ·obtain⟨t1,a,_⟩:=G o t d;exact ac o t1 a
 ·obtain⟨t1,a,e⟩:=G o t d;have k:=H o t1 a;rw[e] at I ⊢;have:=k.at' x I;have:=k.wait;unfold xY;rw[N];exact Ϩ τ
 ·have Y: ∀o,jp (s.tickN n) o<=s.cfg.hold.toNat:=λo=>by
   unfold jp;cases d:qm (s.tickN n).strs o with
   | none=>exact Ϻ _
   | some t=>
    obtain⟨t1,a,e⟩:=G o t d;have k:=(H o t1 a).len;simp only;rw[e];omega
  have aa: ∀L:List Og,(L.map (jp (s.tickN n))).sum<=L.length* s.cfg.hold.toNat:=λL=>by
   induction L with
   | nil=>simp
   | cons o L ih=>
    have:=Y o;rw[ϡ,List.sum_cons,Ϙ,C9];omega
  exact aa orgs
def Yt (acc:Bool) (L M:List Og) (s:RmS):s.picks acc (L++M)=(s.picks acc L).picks acc M:=by unfold RmS.picks;rw[Δ]
def Ze (acc:Bool): ∀(L:List Og) {s:RmS},LkL R s.lanes->LkL R (s.picks acc L).lanes
 | [],_,h=>h
 | w::L,_,h=>Ze acc L (Pf h w acc)
def YI (d:List (List Og)) (n:Nat):d.flatten=(d.take n).flatten++(d.drop n).flatten:=by rw[<-I6,A5]
def DY {G:List Og} (h:OnL G s) (af:LkL R s.lanes) (d:List (List Og)) (H:d.length=4* R) (I: ∀L∈d,∀w∈G,w∈L):
  OnL G (s.picks ό d.flatten)/\ ∀x,x∈subIds->(qm s.lanes x).isSome=ό->((s.picks ό d.flatten).ln x).A=[]/\((s.picks ό d.flatten).ln x).B=[]/\((s.picks ό d.flatten).ln x).C=[]:=by
 have ag: ∀(L:List Og) {t:RmS},OnL G t->OnL G (t.picks ό L):=λL=>by
  induction L with
  | nil=>intro t J;exact J
  | cons w L ih=>intro t J;exact ih (J.pick w).1
 refine⟨ag _ h,λx O Y=> ?_⟩;have N: ∀n:Int,(n=2∨n=3∨n=4)->((n,x):Og)∈G:=λn H=>by
  rw[<-h.workers];exact mem_workers.2 (ϓ (ϓ ⟨H,O,Y⟩))
 obtain⟨l,U⟩:=Ϟ.1 Y;have e:s.ln x=l:=by unfold RmS.ln;rw[U];rfl
 have k:=af x l U;rw[<-e] at k;obtain⟨aa,ab,a3⟩:=PW h O k (d.take (3* R)) (λL q=>⟨I L (M4 q) _ (N 2 (ϐ rfl)),I L (M4 q) _ (N 3 (ϓ (ϐ rfl)))⟩);have ak:XL (s.ln x)<=3* R:=by unfold XL;have:=k.A;have:=k.B;omega
 rw[ϛ,H] at a3;have z:XL ((s.picks ό (d.take (3* R)).flatten).ln x)=0:=by omega
 unfold XL at z;have ah:((s.picks ό (d.take (3* R)).flatten).ln x).A=[]:=A4.1 τ;have ai:((s.picks ό (d.take (3* R)).flatten).ln x).B=[]:=A4.1 τ;obtain⟨aj,ac,ad,ae⟩:=PV aa O ah ai (d.drop (3* R)) (λL q=>I L (W0 q) _ (N 4 (ϓ (ϓ rfl))));rw[Ϡ,H] at ae;have:=ab.C;rw[YI d (3* R),Yt];exact⟨ac,ad,A4.1 τ⟩
def WT (ab:s.closed=ύ) (au: ∀o t,qm s.strs o=ϊ t->o∈orgs) (ak:uM s) (al:LkL s.cfg.room.toNat s.lanes) (av:s.queue.length<=s.cfg.room.toNat) (G d:List (List Og)) (w:Nat) (ao:s.cfg.wait<=w)
  (ar:G.length=s.cfg.room.toNat) (aa:d.length=4* s.cfg.room.toNat+9* s.cfg.hold.toNat) (aq: ∀L∈G,∀v∈s.workers,v∈L) (af: ∀L∈d,∀v∈s.workers,v∈L) (s1 s3:RmS)
  (ai:s.picks ό G.flatten=s1) (am: ∀o t,qm s1.strs o=ϊ t->o∈orgs) (aj:(s1.tickN w).picks ό d.flatten=s3):
  s1.queue=[]/\s1.closed=ύ/\OnL s.workers s3/\yw (s1.tickN w)<=9* s.cfg.hold.toNat/\ ∀x,x∈subIds->(s3.ln x).A=[]/\(s3.ln x).B=[]/\(s3.ln x).C=[]:=by
 obtain⟨H,N,a3⟩:=Zo ab ό G (λL q=>aq L q _ (mem_workers.2 (ϐ rfl)));obtain⟨O,I⟩:=uM.picks ό G.flatten ak ab;have ae:=Ze ό G.flatten al;rw[ai] at H N a3 O I ae;have ag:s1.queue=[]:=A4.1 τ;obtain⟨c1,c2⟩:=Gc H ag O am w (by rw[I.cfg];exact ao);rw[I.cfg] at c2;rw[N] at c1;obtain⟨_,_,_,_,t5,_⟩:=yP w H;obtain⟨U,ah⟩:=PZ c1 (d.take (9* s.cfg.hold.toNat)) (λL q=>af L (M4 q) _ (mem_workers.2 (ϓ (ϐ rfl))));rw[ϛ,aa] at ah;have z:yw ((s1.tickN w).picks ό (d.take (9* s.cfg.hold.toNat)).flatten)=0:=by omega
 have ap:=Ze (R:=s.cfg.room.toNat) ό (d.take (9* s.cfg.hold.toNat)).flatten (s:=s1.tickN w) (by rw[t5];exact ae);obtain⟨J,Y⟩:=DY (U.onL z) ap (d.drop (9* s.cfg.hold.toNat)) (by rw[Ϡ,aa];omega) (λL q v an=>af L (W0 q) v an);rw[<-Yt,<-YI,aj] at J Y;refine⟨ag,H,J,c2,λx ad=> ?_⟩;cases hs:(qm ((s1.tickN w).picks ό (d.take (9* s.cfg.hold.toNat)).flatten).lanes x).isSome with
 | true=>exact Y x ad hs
 | false=>
  have ac:(qm s3.lanes x).isSome=ύ:=by
   cases h3:(qm s3.lanes x).isSome with
   | false=>rfl
   | true=>
    have:((2,x):Og)∈s3.workers:=mem_workers.2 (ϓ (ϓ ⟨ϐ rfl,ad,h3⟩));rw[J.workers,<-U.workers] at this;rcases mem_workers.1 this with e | e | ⟨_,_,e⟩
    ·cases e
    ·cases e
    ·simp only at e;rw[hs] at e;cases e
  have:s3.ln x=ln0:=by
   unfold RmS.ln;cases hl:qm s3.lanes x with
   | none=>rfl
   | some l=>rw[hl] at ac;cases ac
  rw[this];exact⟨rfl,rfl,rfl⟩
def VN {N:List Og} (h:OnL N s) (J: ∀x,x∈subIds->(s.ln x).A=[]/\(s.ln x).B=[]/\(s.ln x).C=[]) (I:OwO s):(∀x i,qm s.book (x,i)≠ϊ 0)/\ ∀w,s.may w=ύ:=by
 have U: ∀x l,qm s.lanes x=ϊ l->xW l=[]:=λx l e=>by
  have H:s.ln x=l:=by unfold RmS.ln;rw[e];rfl
  obtain⟨a,b,c⟩:=J x (I.sub x l e).1;rw[H] at a b c;unfold xW;rw[a,b,c];rfl
 refine⟨λx i e=> ?_,λw=> ?_⟩
 ·obtain⟨l,O,_,_,G⟩:=I.src x i e;rw[U x l O] at G;rcases G with G | ⟨o,t,k1,k2⟩ | G
  ·cases G
  ·rw[h.held o t k1] at k2;cases k2
  ·exact G
 ·cases d:s.may w with
  | false=>rfl
  | true=>
   exfalso;unfold RmS.may at d;rw[Φ,ώ (by rw[h.closed];decide)] at d;obtain⟨_,d⟩:=d;unfold RmS.mayOpen at d;split at d
   ·rw[h.queue] at d;cases d
   ·split at d
    ·rw[h.ready] at d;cases d
    ·cases hw:qm s.lanes w.2 with
     | none=>rw[hw] at d;cases d
     | some l=>
      rw[hw] at d;have H:s.ln w.2=l:=by unfold RmS.ln;rw[hw];rfl
      obtain⟨a,b,c⟩:=J w.2 (I.sub w.2 l hw).1;rw[H] at a b c;simp only at d;unfold zQ at d;rw[a,b,c] at d;simp at d
structure gI (c:CfR) (s:RmS):Prop where
 closed:s.closed=ύ
 cfg:s.cfg=c
 one:1<=s.cfg.room.toNat
 hold:0<=s.cfg.hold
 bf:uM s
 lk:LkL s.cfg.room.toNat s.lanes
def gI.of (h:gI c s) (G:s'.closed=s.closed) (d:s'.cfg=s.cfg) (H:uM s') (I:LkL s.cfg.room.toNat s'.lanes):gI c s':=⟨G.trans h.closed,d.trans h.cfg,by rw[d];exact h.one,by rw[d];exact h.hold,H,by rw[d];exact I⟩
def EX (h:1<=R) (m o q t:Int):LnK R (Y0 R m o q t):=⟨rfl,h,Ϻ _,Ϻ _,Ϻ _⟩
def Zg (c:CfR) (h:0<=c.hold) (G:Int):BfK c G (ub c).buf:=⟨rfl,rfl,h,λk d=>(by cases d)⟩
def gI.act (h:gI c s) (a:A22) (H:a.act≠8):gI c (doR s a).1:=by
 by_cases ha1:a.act=1
 ·rw[Zk a ha1];have k:=(zJ h.closed a.w a.acc).1;exact h.of k.closed k.cfg (h.bf.pick h.closed a.w a.acc) (Pf h.lk a.w a.acc)
 ·have G:=h.closed;unfold doR;split
  ·unfold RmS.arrive
   repeat' split
   all_goals exact h.of rfl rfl h.bf h.lk
  ·split
   ·obtain⟨_,t1,t2,t3,t4,t5,_⟩:=Jl G;exact h.of (t1.trans G.symm) t4 (t3.ok h.bf t4 (by rw[t2];omega)) (by rw[t5];exact h.lk)
   ·split
    ·unfold RmS.publish;split
     ·exact h
     ·split
      ·refine h.of rfl rfl (λo t e=> ?_) h.lk;simp only at e;rw[qE] at e;split at e
       ·injection e with e;rw[<-e];exact Zg _ h.hold _
       ·rw[qE] at e;split at e
        ·injection e with e;rw[<-e];exact Zg _ h.hold _
        ·rw[qE] at e;split at e
         ·injection e with e;rw[<-e];exact Zg _ h.hold _
         ·exact h.bf o t e
      ·exact h
    ·split
     ·unfold RmS.join;split
      ·exact h
      ·split
       ·exact h.of rfl rfl h.bf (h.lk.put _ (EX h.one _ _ _ _))
       ·exact h
     ·split
      ·unfold RmS.subscribe
       repeat' split
       all_goals first | exact h | skip
       rename_i l d;exact h.of rfl rfl h.bf (h.lk.put _ ((h.lk _ l d).want _))
      ·split
       ·unfold RmS.want
        repeat' split
        all_goals first | exact h | skip
        rename_i l d;exact h.of rfl rfl h.bf (h.lk.put _ ((h.lk _ l d).want _))
       ·split
        ·unfold RmS.leave
         repeat' split
         all_goals first | exact h | skip
         refine h.of rfl rfl h.bf λx l e=> ?_
         simp only at e;rw[ul] at e;split at e
         ·cases e
         ·exact h.lk x l e
        ·exact h
def gI.start (h:yb c=ό):gI c (uL c):=by
 obtain⟨G,d,_⟩:=vN h;unfold gi at d;exact⟨rfl,rfl,by show 1<=c.room.toNat;omega,by show 0<=c.hold;omega,λo t e=>(by cases e),λx l e=>(by cases e)⟩
structure BkW (e:Option (Int×Int)) (b b':Bk):Prop where
 keys:b'.map Prod.fst=b.map Prod.fst
 fix: ∀k v,qm b k=ϊ v->v≠0->qm b' k=ϊ v
 rng:(∀k v,qm b k=ϊ v->0<=v/\v<=8)-> ∀k v,qm b' k=ϊ v->0<=v/\v<=8
 sent: ∀k,qm b' k=ϊ 1->qm b k=ϊ 1∨e=ϊ k
 new: ∀k,e=ϊ k->qm b k=ϊ 0/\qm b' k=ϊ 1
def BkW.refl (b:Bk):BkW ϋ b b:=⟨rfl,λ_ _ h _=>h,λh=>h,λ_ h=>ϐ h,λ_ h=>by cases h⟩
def BkW.trans {e:Option (Int×Int)} {a b c:Bk} (h:BkW e a b) (g:BkW ϋ b c):BkW e a c:=
  ⟨g.keys.trans h.keys,λk v d G=>g.fix k v (h.fix k v d G) G,λH=>g.rng (h.rng H),
   λk d=>(g.sent k d).elim (λG=>h.sent k G) (λG=>by cases G),
   λk d=>⟨(h.new k d).1,g.fix k 1 (h.new k d).2 ζ⟩⟩
def Af (d: ∀s x,BkW ϋ s.book (f s x).book): ∀(L:List α) (s:RmS),BkW ϋ s.book (L.foldl f s).book
 | [],s=>BkW.refl _
 | x::L,s=>(d s x).trans (Af d L (f s x))
def Uu (l:LnS):(qP l).2.2.1=0∨2<=(qP l).2.2.1/\(qP l).2.2.1<=8:=by
 rcases xX (s:=l) with ⟨_,e⟩ | ⟨_,x,A,_,_,e⟩
 ·rw[e];exact ϐ rfl
 ·rw[e];simp only;unfold xa;split
  ·exact ϐ rfl
  ·split
   ·split
    ·exact ϐ rfl
    ·exact ϓ (by simp only;decide)
   ·exact ϓ (by simp only;decide)
def CM (s:RmS) (x:Int):(s.tell1 x).lanes=s.lanes/\(s.tell1 x).pks=s.pks/\(s.tell1 x).book=s.book:=by
 unfold RmS.tell1;split
 ·exact⟨rfl,rfl,rfl⟩
 ·repeat' split
  all_goals exact⟨rfl,rfl,rfl⟩
def Jw (d: ∀s x,(f s x).lanes=s.lanes/\(f s x).pks=s.pks/\(f s x).book=s.book): ∀(L:List α) (s:RmS),(L.foldl f s).lanes=s.lanes/\(L.foldl f s).pks=s.pks/\(L.foldl f s).book=s.book
 | [],s=>⟨rfl,rfl,rfl⟩
 | x::L,s=>by
  obtain⟨a,b,c⟩:=Jw d L (f s x);obtain⟨a',G,H⟩:=d s x;exact⟨a.trans a',b.trans G,c.trans H⟩
structure KfL (id k v:Int) (l:LnS):Prop where
 tgt:l.tgt=k
 gone:l.gone=ύ
 A: ∀it∈l.A,it.id=id->it.layer=k/\it.key=ό
 BC:(id∈l.B.map (·.1.id)∨id∈l.C.map (·.1))->l.cur=k
 v:v=0∨v=1/\l.cur=k∨v=2∨v=3∨v=6
structure vj (x id k:Int) (s:RmS):Prop where
 ln: ∃l v,qm s.lanes x=ϊ l/\qm s.book (x,id)=ϊ v/\KfL id k v l
def CQ {key:Bool}:(xa k k d key).1=k:=by
 unfold xa;split<;>rfl
def CO {c:Int}:(xa c k k ό).1=k/\(xa c k k ό).2.1=0:=by
 unfold xa;by_cases h:k=c
 ·rw[ϒ h];exact⟨h.symm,rfl⟩
 ·rw[ώ h,ϒ rfl];simp
def vj.put1 {id:Int} (h:vj x id k s) (d:ItS) (ab:d.id=id->d.layer=k/\d.key=ό) (y:Int):vj x id k (s.put1 d y):=by
 obtain⟨l,v,U,Y,G⟩:=h.ln;unfold RmS.put1;split
 ·cases hl:qm s.lanes y with
  | none=>exact h
  | some m=>
   simp only;have ae:KfL id k v l->y=x->KfL id k v (jL m d).1:=λ_ e=>by
    subst e;rw[U] at hl;injection hl with hl
    subst hl;rcases Vj l d with ⟨e,_⟩ | ⟨_,_,_,_,_,e,_⟩
    ·rw[e];exact G
    ·rw[e];refine⟨G.tgt,G.gone,λj J hi=> ?_,G.BC,G.v⟩;have ac:j∈l.A∨j=d:=by
      simp only at J;split at J
      ·rcases ϥ.1 J with q | q
       ·exact ϐ q
       ·exact ϓ (Γ.1 q)
      ·rcases ϥ.1 J with q | q
       ·exact ϐ (O4 q)
       ·exact ϓ (Γ.1 q)
     rcases ac with q | q
     ·exact G.A j q hi
     ·rw[q] at hi ⊢;exact ab hi
   have O: ∀N v',qm N (x,id)=ϊ v'->(v'=v∨v'=6)->vj x id k {s with lanes:=qB s.lanes y (jL m d).1,book:=N}:=λN v' aa ad=>by
    have base: ∃l',qm (qB s.lanes y (jL m d).1) x=ϊ l'/\KfL id k v l':=by
     by_cases c:y=x
     ·exact⟨_,by rw[qE,ϒ c.symm],ae G c⟩
     ·exact⟨l,by rw[qE,ώ (λH=>c H.symm)];exact U,G⟩
    obtain⟨l',af,I⟩:=base;refine⟨l',v',af,aa, ?_⟩;rcases ad with e | e
    ·rw[e];exact I
    ·rw[e];exact⟨I.tgt,I.gone,I.A,I.BC,ϓ (ϓ (ϓ (ϓ rfl)))⟩
   split
   ·by_cases c:(x,id)=(y,(jL m d).2.1)/\qm s.book (y,(jL m d).2.1)=ϊ 0
    ·exact O _ 6 (by rw[jM _ _ _ _ ζ,c.1,ϒ ⟨rfl,c.2⟩]) (ϓ rfl)
    ·exact O _ v (by rw[jM _ _ _ _ ζ,ώ (λH=>c ⟨H.1,by rw[<-H.1];exact H.2⟩)];exact Y) (ϐ rfl)
   ·exact O s.book v Y (ϐ rfl)
 ·exact h
def vj.puts {id:Int} (d:ItS) (G:d.id=id->d.layer=k/\d.key=ό): ∀(L:List Int) {s:RmS},vj x id k s->vj x id k (L.foldl (RmS.put1 d) s)
 | [],_,h=>h
 | y::L,_,h=>vj.puts d G L (h.put1 d G y)
def vj.step {id:Int} (h:vj x id k s) (y:Int) {m G:LnS} (d:qm s.lanes y=ϊ m) (H:s'.lanes=qB s.lanes y G) (Y:y=x-> ∀v,qm s.book (x,id)=ϊ v->KfL id k v m-> ∃v',qm s'.book (x,id)=ϊ v'/\KfL id k v' G) (U:y≠x->qm s'.book (x,id)=qm s.book (x,id)):vj x id k s':=by
 obtain⟨l,v,I,J,N⟩:=h.ln;by_cases c:y=x
 ·rw[c,I] at d;injection d with d
  subst d;obtain⟨v',aa,ab⟩:=Y c v J N;exact⟨G,v',by rw[H,qE,ϒ c.symm],aa,ab⟩
 ·exact⟨l,v,by rw[H,qE,ώ (λO=>c O.symm)];exact I,by rw[U c];exact J,N⟩
def vn {b:Bk} {y id i f:Int} (G:1<=f/\f<=8) (h:(x,id)≠(y,i)):qm (jn b y i f) (x,id)=qm b (x,id):=by
 rw[jM _ _ _ _ G,ώ (λd=>h d.1)]
def vj.choose {id:Int} (h:vj x id k s) (y:Int):vj x id k (s.choose y):=by
 unfold RmS.choose;cases hl:qm s.lanes y with
 | none=>exact h
 | some m=>
  simp only;have I:=Uu m;refine h.step y hl rfl (λc v H d=> ?_) (λc=> ?_)
  ·subst c;rcases xX (s:=m) with ⟨_,e⟩ | ⟨_,i,A,J,_,e⟩
   ·rw[e];simp only[I1,Ϭ,C4];exact⟨v,H,d⟩
   ·rw[e];simp only[E8];rw[e] at I;simp only at I;have N:m.cur=k->(xa m.cur m.tgt i.layer i.key).1=k:=λq=>by rw[d.tgt,q];exact CQ
    have hi:i.id=id->(xa m.cur m.tgt i.layer i.key).1=k/\(xa m.cur m.tgt i.layer i.key).2.1=0:=λq=>by
     obtain⟨Y,aa⟩:=d.A i (by rw[J];exact ϣ) q;rw[d.tgt,Y,aa];exact CO
    refine⟨v, ?_,d.tgt,d.gone,λj U=>d.A j (by rw[J];exact Ϧ _ U),λq=> ?_, ?_⟩
    ·split
     ·rename_i q;have O:(xa m.cur m.tgt i.layer i.key).2.1≠0:=by simpa using q
      rw[vn τ (λG=>O (hi (by injection G with _ G;exact G.symm)).2)];exact H
     ·exact H
    ·simp only at q ⊢;by_cases c:i.id=id
     ·exact(hi c).1
     ·refine N (d.BC (q.imp (λq=> ?_) (λq=>q)));split at q
      ·rw[Ξ,ϥ] at q;rcases q with q | q
       ·exact q
       ·simp only[ϡ,C8,Γ] at q;exact(c q.symm).elim
      ·exact q
    ·simp only;exact d.v.imp (λq=>q) (λq=>q.imp (λq=>⟨q.1,N q.2⟩) (λq=>q))
  ·split
   ·rename_i q;have O:(qP m).2.2.1≠0:=λz=>by rw[z] at q;simp at q
    exact vn τ (λG=>c (by injection G with G _;exact G.symm))
   ·rfl
def vj.rewrite {id:Int} (h:vj x id k s) (y:Int):vj x id k (s.rewrite y):=by
 unfold RmS.rewrite;cases hl:qm s.lanes y with
 | none=>exact h
 | some m=>
  simp only;refine h.step y hl rfl (λc v H G=> ?_) (λc=> ?_)
  ·subst c;rcases zj (s:=m) with ⟨_,e⟩ | ⟨i,f,B,J,e⟩
   ·rw[e];simp only[I1,Ϭ,C4];exact⟨v,H,G⟩
   ·rw[e];simp only[E8];have d:KfL id k v {m with B:=B,rw:=uC m.rw i.pk f,C:=if m.C.length<m.room then m.C++[(i.id,pkB (vX m.rw i.pk f))] else m.C.tail++[(i.id,pkB (vX m.rw i.pk f))]}:=by
     refine⟨G.tgt,G.gone,G.A,λq=> ?_,G.v⟩;refine G.BC ?_;rw[J];simp only[ϡ,ϫ] at q ⊢;rcases q with q | q
     ·exact ϐ (ϓ q)
     ·split at q
      ·rw[Ξ,ϥ] at q;rcases q with q | q
       ·exact ϓ q
       ·simp only[ϡ,C8,Γ] at q;exact ϐ (ϐ q)
      ·rw[Ξ,ϥ] at q;rcases q with q | q
       ·refine ϓ ?_;rw[C1] at q ⊢;obtain⟨z,O,U⟩:=q;exact⟨z,O4 O,U⟩
       ·simp only[ϡ,C8,Γ] at q;exact ϐ (ϐ q)
    obtain⟨D,N⟩:=ν ((if m.C.length<m.room then (0:Int) else (m.C.head?.map (·.1)).getD 0));rw[N];by_cases q:(y,id)=(y,D)/\qm s.book (y,id)=ϊ 0
    ·split
     ·exact⟨6,by rw[jM _ _ _ _ ζ,ϒ q],d.tgt,d.gone,d.A,d.BC,ϓ (ϓ (ϓ (ϓ rfl)))⟩
     ·exact⟨v,H,d⟩
    ·split
     ·exact⟨v,by rw[jM _ _ _ _ ζ,ώ q];exact H,d⟩
     ·exact⟨v,H,d⟩
  ·split
   ·exact vn ζ (λI=>c (by injection I with I _;exact I.symm))
   ·rfl
def vj.write {id:Int} (h:vj x id k s) (y:Int):vj x id k (s.write y ό):=by
 unfold RmS.write;cases hl:qm s.lanes y with
 | none=>exact h
 | some m=>
  simp only;refine h.step y hl rfl (λc v N d=> ?_) (λc=> ?_)
  ·subst c;rcases zc (s:=m) ό with ⟨_,e⟩ | ⟨o,C,I,⟨_,e⟩ | ⟨q,_⟩⟩
   ·rw[e];simp only[I1,Ϭ,C4];rw[d.gone];exact⟨v,N,d⟩
   ·have Y:(jk m ό).2.1=ύ:=by unfold jk;rw[d.gone];rfl
    rw[e];simp only[E8,Ψ,decide_true,Y,Ϭ,C4];have J: ∀v',(v'=v∨v'=1/\m.cur=k)->KfL id k v' {m with C:=C,W:=m.W++[o],row:=(jk m ό).1,gone:=ύ}:=λv' aa=>by
     refine⟨d.tgt,rfl,d.A,λq=> ?_, ?_⟩
     ·refine d.BC (q.imp (λq=>q) (λq=> ?_));rw[I,ϡ];exact Ϧ _ q
     ·rcases aa with q | q
      ·rw[q];exact d.v
      ·exact ϓ (ϐ q)
    by_cases q:(y,id)=(y,o.1)/\qm s.book (y,id)=ϊ 0
    ·refine⟨1,by rw[jM _ _ _ _ ζ,ϒ q],J 1 (ϓ ⟨rfl,d.BC (ϓ ?_)⟩)⟩;have:=q.1;injection this with _ q2
     rw[I,q2,ϡ];exact ϣ
    ·exact⟨v,by rw[jM _ _ _ _ ζ,ώ q];exact N,J v (ϐ rfl)⟩
   ·cases q
  ·have O: ∀b:Bk,qm (vW b y 7) (x,id)=qm b (x,id):=λb=>gR b id 7 (λG=>c G.symm)
   have H: ∀b i f,1<=f/\f<=8->qm (jn b y i f) (x,id)=qm b (x,id):=λb i f U=>vn U (λG=>c (by injection G with G _;exact G.symm))
   split
   ·rw[O];split
    ·rename_i q;rw[Φ] at q;rw[Ϛ q.2];exact H _ _ 1 ζ
    ·rfl
   ·split
    ·rename_i q;rw[Φ] at q;rw[Ϛ q.2];exact H _ _ 1 ζ
    ·rfl
structure KfH (id k:Int) (s:RmS):Prop where
 hd: ∀o t,qm s.strs o=ϊ t-> ∀h∈t.buf.holds,h.2.2=id->o.2=k
 key:xO (s.pks.getD id.toNat ac0).pk.pl=ό
structure KfS (x id k:Int) (s:RmS):Prop where
 closed:s.closed=ύ
 queue:s.queue=[]
 ok:vj x id k s
 h:KfH id k s
def KfH.same {id:Int} (h:KfH id k s) (d:s'.strs=s.strs) (G:s'.pks=s.pks):KfH id k s':=⟨by rw[d];exact h.hd,by rw[G];exact h.key⟩
def KfS.order {id:Int} (h:KfS x id k s):vj x id k s.order/\KfH id k s.order:=by
 have G:=zd s;unfold RmS.order at G ⊢;cases hy:s.ready with
 | none=>exact⟨h.ok,h.h⟩
 | some o=>
  rw[hy] at G;simp only at G ⊢;cases ht:qm s.strs o with
  | none=>exact⟨h.ok,h.h⟩
  | some t=>
   rw[ht] at G;simp only at G ⊢;have d:=P0 hy;unfold RmS.readyAt at d;rw[ht] at d;simp only at d;cases hb:t.buf.holds with
   | nil=>unfold jU at d;rw[hb] at d;cases d
   | cons y T=>
    have J:(zP t.buf s.clock).1=jV t.buf/\(zP t.buf s.clock).2.2.1=y.2.2:=by unfold zP;rw[hb];simp only;rw[ϒ d];exact⟨rfl,rfl⟩
    have N:(jV t.buf).holds=T:=by unfold jV;rw[hb]
    refine⟨?_,⟨λaa t' e z H=> ?_,by rw[G.pks];exact h.h.key⟩⟩
    ·unfold RmS.orderAt;obtain⟨l,v,O,U,Y⟩:=h.ok.ln;refine vj.puts _ (λe=> ?_) subIds (s:={s with strs:=qB s.strs o {t with buf:=(zP t.buf s.clock).1}}) ⟨l,v,O,U,Y⟩;rw[J.2] at e ⊢;have I:y.2.2=id:=e;rw[I];exact⟨h.h.hd o t ht y (by rw[hb];exact ϣ) I,h.h.key⟩
    ·unfold RmS.orderAt at e;rw[wX] at e;simp only at e;rw[qE] at e;split at e
     ·rename_i c;injection e with e
      subst e;rw[c];refine h.h.hd o t ht z ?_;simp only at H;rw[J.1,N] at H;rw[hb];exact Ϧ _ H
     ·exact h.h.hd aa t' e z H
def KfS.pick {id:Int} (h:KfS x id k s) (w:Og):KfS x id k (s.pick w ό).1:=by
 have d:=zJ h.closed w ό;have G:(s.pick w ό).1.queue=[]:=by
  rcases d.2.1 with e | e<;>rw[e,h.queue]
  rfl
 have key:vj x id k (s.pick w ό).1/\KfH id k (s.pick w ό).1:=by
  unfold RmS.pick;split
  ·simp only;unfold RmS.stepW;rw[ώ (by rw[h.closed];decide)];split
   ·have:s.read=s:=by unfold RmS.read;rw[h.queue]
    rw[this];exact⟨h.ok,h.h⟩
   ·split
    ·exact h.order
    ·split
     ·exact⟨h.ok.choose _,h.h.same (by unfold RmS.choose;cases qm s.lanes w.2<;>rfl) (xv s w.2).pks⟩
     ·split
      ·exact⟨h.ok.rewrite _,h.h.same (by unfold RmS.rewrite;cases qm s.lanes w.2<;>rfl) (j6 s w.2).pks⟩
      ·exact⟨h.ok.write _,h.h.same (by unfold RmS.write;cases qm s.lanes w.2<;>rfl) (by unfold RmS.write;cases qm s.lanes w.2<;>rfl)⟩
  ·exact⟨h.ok,h.h⟩
 exact⟨d.1.closed.trans h.closed,G,key.1,key.2⟩
def KfS.ticks {id:Int} (h:KfS x id k s) (n:Nat):KfS x id k (s.tickN n):=by
 obtain⟨G,ad,H,ae,I,J,N,O⟩:=yP n h.closed;obtain⟨l,v,U,Y,aa⟩:=h.ok.ln;refine⟨G,J.trans h.queue,⟨l,v,by rw[I];exact U,by rw[N];exact Y,aa⟩,⟨λo t e z d hi=> ?_,by rw[O];exact h.h.key⟩⟩;obtain⟨t1,ab,ac⟩:=H o t e;rw[ac] at d;exact h.h.hd o t1 ab z d hi
def KfS.fin {id:Int} (h:KfS x id k s) (I:qm s.book (x,id)≠ϊ 0): ∃l v,qm s.lanes x=ϊ l/\qm s.book (x,id)=ϊ v/\l.tgt=k/\(v=2∨v=3∨v=6∨v=1/\l.cur=k):=by
 obtain⟨l,v,H,d,G⟩:=h.ok.ln;refine⟨l,v,H,d,G.tgt, ?_⟩;rcases G.v with q | q | q | q | q
 ·rw[q] at d;exact(I d).elim
 ·exact ϓ (ϓ (ϓ q))
 ·exact ϐ q
 ·exact ϓ (ϐ q)
 ·exact ϓ (ϓ (ϐ q))
def gN (s:RmS):s.read.lanes=s.lanes/\s.read.tab=s.tab:=by
 unfold RmS.read;cases hq:s.queue with
 | nil=>exact⟨rfl,rfl⟩
 | cons b q=>
  simp only;split
  ·unfold RmS.tell;split
   ·have k:=wQ (xR (zv b).1) {{s with queue:=q} with cnt:={s.cnt with told:=s.cnt.told+1}};exact⟨(Jw (f:=RmS.tellS) (λs src=>Jw (f:=RmS.tell1) CM _ s) _ _).1,k.tab⟩
   ·exact⟨rfl,rfl⟩
  ·unfold RmS.media;split
   ·cases qm ({s with queue:=q}:RmS).tab.o (jS b).1.sc with
    | none=>exact⟨rfl,rfl⟩
    | some o=>
     simp only;unfold RmS.accept;cases qm ({s with queue:=q}:RmS).strs o with
     | none=>exact⟨rfl,rfl⟩
     | some t=>exact⟨rfl,rfl⟩
   ·exact⟨rfl,rfl⟩
def LnT (x k:Int) (L:List (Int×LnS)):Prop:= ∃l,qm L x=ϊ l/\l.tgt=k/\l.gone=ύ
def LnT.put {L:List (Int×LnS)} (h:LnT x k L) (y:Int) {m G:LnS} (d:qm L y=ϊ m) (N:G.tgt=m.tgt) (O:m.gone=ύ->G.gone=ύ):LnT x k (qB L y G):=by
 obtain⟨l,H,I,J⟩:=h;by_cases c:x=y
 ·subst c;rw[H] at d;injection d with d
  subst d;exact⟨G,xq _ _ _,N.trans I,O J⟩
 ·exact⟨l,by rw[qE,ώ c];exact H,I,J⟩
def LnT.fold (d:ItS): ∀(M:List Int) {s:RmS},LnT x k s.lanes->LnT x k (M.foldl (RmS.put1 d) s).lanes
 | [],_,h=>h
 | y::M,s,h=>by
  refine LnT.fold d M (s:=s.put1 d y) ?_;unfold RmS.put1;split
  ·cases hl:qm s.lanes y with
   | none=>exact h
   | some m=>
    have G:(jL m d).1.tgt=m.tgt/\(m.gone=ύ->(jL m d).1.gone=ύ):=by
     rcases Vj m d with ⟨e,_⟩ | ⟨_,_,_,_,_,e,_⟩
     ·rw[e];exact⟨rfl,λq=>q⟩
     ·rw[e];exact⟨rfl,λq=>q⟩
    simp only;split<;>exact h.put y hl G.1 G.2
  ·exact h
def LnT.step (h:LnT x k s.lanes) (d:s.closed=ύ) (w:Og):LnT x k (s.stepW w ό).lanes:=by
 unfold RmS.stepW;rw[ώ (by rw[d];decide)];split
 ·rw[(gN s).1];exact h
 ·split
  ·unfold RmS.order;cases s.ready with
   | none=>exact h
   | some o=>
    simp only;cases qm s.strs o with
    | none=>exact h
    | some t=>
     simp only;unfold RmS.orderAt;exact LnT.fold _ subIds h
  ·split
   ·unfold RmS.choose;cases hl:qm s.lanes w.2 with
    | none=>exact h
    | some m=>
     obtain⟨_,_,G,_⟩:=Xa m;refine h.put w.2 hl ?_ (λq=>by rw[G];exact q);rcases xX (s:=m) with ⟨_,e⟩ | ⟨_,_,_,_,_,e⟩<;>rw[e]
   ·split
    ·unfold RmS.rewrite;cases hl:qm s.lanes w.2 with
     | none=>exact h
     | some m=>
      have q:(qN m).1.tgt=m.tgt/\(qN m).1.gone=m.gone:=by
       rcases zj (s:=m) with ⟨_,e⟩ | ⟨_,_,_,_,e⟩<;>rw[e]<;>exact⟨rfl,rfl⟩
      exact h.put w.2 hl q.1 (λz=>by rw[q.2];exact z)
    ·unfold RmS.write;cases hl:qm s.lanes w.2 with
     | none=>exact h
     | some m=>
      have q:(qJ m ό).1.tgt=m.tgt/\(m.gone=ύ->(qJ m ό).1.gone=ύ):=by
       rcases zc (s:=m) ό with ⟨_,e⟩ | ⟨o,C,_,⟨_,e⟩ | ⟨z,_⟩⟩
       ·rw[e];exact⟨rfl,λq=>q⟩
       ·rw[e];exact⟨rfl,λq=>by simp only;unfold jk;rw[q];rfl⟩
       ·cases z
      exact h.put w.2 hl q.1 q.2
structure ZU (x k:Int) (o:Og) (b:List Int) (src:Int) (s:RmS):Prop where
 closed:s.closed=ύ
 rm: ∃n,qT n s
 queue: ∃q,s.queue=q++[b]
 lane:LnT x k s.lanes
 tabu:x∈prR (jH o.1) s.tab.u
 tabo:qm s.tab.o src=ϊ o
structure KfQ (x k:Int) (o:Og) (p:Pk) (s:RmS):Prop where
 ex: ∃num,∃P,s.pks=P++[⟨o,num,p⟩]/\KfS x (P.length:Int) k s
def CT (U:s.closed=ύ) (w:Og) (x k:Int) (h:LnT x k s.lanes) (I:Int) (G:x∈prR (jH I) s.tab.u):x∈prR (jH I) (s.stepW w ό).tab.u/\(s.stepW w ό).tab.o=s.tab.o:=by
 have H: ∀s':RmS,s'.tab=s.tab->x∈prR (jH I) s'.tab.u/\s'.tab.o=s.tab.o:=λs' e=>by rw[e];exact⟨G,rfl⟩
 unfold RmS.stepW;rw[ώ (by rw[U];decide)];split
 ·exact H _ (gN s).2
 ·split
  ·exact H _ (zd s).tab
  ·split
   ·exact H _ (xv s _).tab
   ·split
    ·exact H _ (j6 s _).tab
    ·unfold RmS.write;cases hl:qm s.lanes w.2 with
     | none=>exact H _ rfl
     | some m=>
      simp only;cases hg:(qJ m ό).1.gone with
      | false=>exact⟨G,rfl⟩
      | true=>
       simp only[Ψ];have J:m.gone=ό:=by
        cases hm:m.gone with
        | true=>rfl
        | false=>
         rcases zc (s:=m) ό with ⟨_,e⟩ | ⟨o,C,_,⟨_,e⟩ | ⟨z,_⟩⟩
         ·rw[e,hm] at hg;exact hg
         ·rw[e] at hg;simp only at hg;unfold jk at hg;rw[hm] at hg;exact hg
         ·cases z
       have Y:x≠w.2:=λe=>by
        obtain⟨l,d,_,O⟩:=h;rw[e,hl] at d;injection d with d
        rw[d,O] at J;cases J
       unfold zl;split
       ·split
        ·refine⟨?_,rfl⟩;rw[mem_prR] at G ⊢;obtain⟨a,aa,d,N⟩:=G;exact⟨a,aa,by simp only;rw[qE,ώ Y];exact d,N⟩
        ·exact⟨G,rfl⟩
       ·exact⟨G,rfl⟩
def Fy (e:Int):zq e=0∨2<=zq e/\zq e<=8:=by
 unfold zq;split
 ·exact ϓ ζ
 ·split
  ·exact ϓ ζ
  ·split
   ·exact ϓ ζ
   ·exact ϐ rfl
def AH (ac:s.closed=ύ) (aj:s.queue=[]) (H:OwO s) (ag:LnT x k s.lanes) (U:x∈prR (jH o.1) s.tab.u) (ah:(qm s.strs o).isSome=ό) (af:o.2=k) (ai:xO p.pl=ό):KfQ x k o p (s.accept o p):=by
 obtain⟨t,ak⟩:=Ϟ.1 ah;obtain⟨l,I,Y,aa⟩:=ag;have O: ∀x,qm s.book (x,(s.pks.length:Int))=ϋ:=λx=>by
  cases hb:qm s.book (x,(s.pks.length:Int)) with
  | none=>rfl
  | some v=>have:=(H.bel x _ v hb).2;omega
 have ab: ∀x∈prR (jH o.1) s.tab.u,0<=x/\x<6:=λx al=>subIds_iff.1 (mem_prR.1 al).1
 have d:=Jt (s.pks.length:Int) τ (x,(s.pks.length:Int)) _ s.book ab (λx=>ϐ (O x));rw[ϒ ⟨rfl,U⟩] at d;have G:(s.pks.length:Int)∉xW l:=λq=>by
  have J:=(H.owd x l I _ q).1;rw[O] at J;cases J
 unfold xW at G;rw[ϥ,ϥ,not_or,not_or] at G;obtain⟨⟨an,ao⟩,ap⟩:=G;have ae:=Fy (jB t.buf (yJ t p.sq) s.clock (s.pks.length:Int)).2;have N:zq (jB t.buf (yJ t p.sq) s.clock (s.pks.length:Int)).2=0∨zq (jB t.buf (yJ t p.sq) s.clock (s.pks.length:Int)).2=2∨zq (jB t.buf (yJ t p.sq) s.clock (s.pks.length:Int)).2=3∨zq (jB t.buf (yJ t p.sq) s.clock (s.pks.length:Int)).2=6:=by
  unfold zq;split
  ·exact ϓ (ϓ (ϐ rfl))
  ·split
   ·exact ϓ (ϐ rfl)
   ·split
    ·exact ϓ (ϓ (ϓ rfl))
    ·exact ϐ rfl
 unfold RmS.accept;rw[ak];simp only;obtain⟨F,hF⟩:=ν (zq (jB t.buf (yJ t p.sq) s.clock (s.pks.length:Int)).2);rw[hF] at N ae;rw[hF];refine⟨yJ t p.sq,s.pks,rfl,ac,aj,⟨l,F,I, ?_,Y,aa,λaq hi ad=>(an (C1.2 ⟨aq,hi,ad⟩)).elim,λq=>(q.elim ao ap).elim, ?_⟩, ?_, ?_⟩
 ·simp only;split
  ·rename_i z;rw[d,z]
  ·rename_i z;rw[yh _ _ τ,d,ϒ ⟨⟨rfl,U⟩,rfl⟩]
 ·rcases N with q | q | q | q
  ·exact ϐ q
  ·exact ϓ (ϓ (ϐ q))
  ·exact ϓ (ϓ (ϓ (ϐ q)))
  ·exact ϓ (ϓ (ϓ (ϓ q)))
 ·intro ar t' e z am hi;simp only at e;rw[qE] at e;split at e
  ·rename_i c;rw[c];exact af
  ·exfalso;have:=(H.few ar t' e z.2.2 (C1.2 ⟨z,am,rfl⟩)).2;omega
 ·simp only;rw[A7,ϑ,ϯ (ϕ _),Nat.sub_self];exact ai
def KfQ.pick (h:KfQ x k o p s) (w:Og):KfQ x k o p (s.pick w ό).1:=by
 obtain⟨G,P,e,d⟩:=h.ex;refine⟨G,P, ?_,d.pick w⟩;have:(s.pick w ό).1.pks=s.pks:=by
  unfold RmS.pick;split
  ·simp only;unfold RmS.stepW;rw[ώ (by rw[d.closed];decide)];split
   ·unfold RmS.read;rw[d.queue]
   ·split
    ·exact(zd s).pks
    ·split
     ·exact(xv s _).pks
     ·split
      ·exact(j6 s _).pks
      ·unfold RmS.write;cases qm s.lanes w.2<;>rfl
  ·rfl
 rw[this];exact e
def Ew (h:ZU x k o b p.sc s) (J:Y5 b=ύ) (U:jS b=(p,0)) (N:o.2=k) (O:xO p.pl=ό) (w:Og):ZU x k o b p.sc (s.pick w ό).1∨KfQ x k o p (s.pick w ό).1:=by
 obtain⟨n,rm⟩:=h.rm;have H:=zJ h.closed w ό;have aa:=rm.pick w ό;obtain⟨q,G⟩:=h.queue;have Y:(s.pick w ό).1=s->ZU x k o b p.sc (s.pick w ό).1∨KfQ x k o p (s.pick w ό).1:=λe=>by rw[e];exact ϐ h
 by_cases hm:s.may w=ό
 ·have d:(s.pick w ό).1=s.stepW w ό:=by unfold RmS.pick;rw[ϒ hm]
  have st: ∀q',(s.pick w ό).1.queue=q'++[b]->ZU x k o b p.sc (s.pick w ό).1:=λq' e=>by
   obtain⟨t1,t2⟩:=CT h.closed w x k h.lane o.1 h.tabu;exact⟨H.1.closed.trans h.closed,⟨_,aa⟩,⟨q',e⟩,by rw[d];exact h.lane.step h.closed w,by rw[d];exact t1,by rw[d,t2];exact h.tabo⟩
  rcases H.2.1 with e | e
  ·exact ϐ (st q (e.trans G))
  ·cases q with
   | cons c q=>exact ϐ (st q (by rw[e,G];rfl))
   | nil=>
    by_cases hw:w.1=0
    ·have I:s.stepW w ό=({s with queue:=[]}:RmS).accept o p:=by
      unfold RmS.stepW;rw[ώ (by rw[h.closed];decide),ϒ hw];unfold RmS.read;rw[G];simp only[I5];rw[J];simp only[Ϭ,C4];unfold RmS.media;rw[U];simp only[Ψ];rw[h.tabo]
     rw[d,I];exact ϓ (AH h.closed rfl (qW.same rm.ow rfl rfl rfl rfl) h.lane h.tabu (rm.tb.org _ _ h.tabo) N O)
    ·have:=(Kg h.closed w ό).2;rw[ώ hw,<-d] at this;exact ϐ (st [] (this.trans G))
 ·exact Y (by unfold RmS.pick;rw[ώ hm])
def Ys (d:Y5 b=ύ) (I:jS b=(p,0)) (G:o.2=k) (H:xO p.pl=ό): ∀(L:List Og) {s:RmS},ZU x k o b p.sc s∨KfQ x k o p s->ZU x k o b p.sc (s.picks ό L)∨KfQ x k o p (s.picks ό L)
 | [],_,h=>h
 | w::L,_,h=>Ys d I G H L (h.elim (λh=>Ew h d I G H w) (λh=>ϓ (h.pick w)))
def UH (l:LnS):List Int:=l.W.map Prod.fst++(l.C.map Prod.fst++(l.B.map (λp=>p.1.id)++l.A.map (λx=>x.id)))
def Dl (l:LnS) (acc:Bool):List.Sublist (UH (qJ l acc).1) (UH l):=by
 rcases zc (s:=l) acc with ⟨_,h⟩ | ⟨o,C,d,h⟩
 ·rw[h];exact O0 _
 ·unfold UH;rw[d];rcases h with ⟨_,h⟩ | ⟨_,_,_,h⟩<;>rw[h]
  ·simp only;cases acc
   ·exact O0 _
   ·simp
  ·simp only[C8,Ω];exact List.sublist_append_left _ _
structure HJ (b:Jb):Prop where
 rise:b.holds.Pairwise λa c=>a.1<c.1
 over:b.begun=ό-> ∀h∈b.holds,b.hi<h.1
def Di (s:RmS) (x:Int):(s.tell1 x).lanes=s.lanes/\(s.tell1 x).pks=s.pks:=by
 unfold RmS.tell1;cases qm s.tab.u x with
 | none=>exact⟨rfl,rfl⟩
 | some sb=>
  simp only;split
  ·cases qm s.lanes x with
   | none=>exact⟨rfl,rfl⟩
   | some l=>
    simp only;split
    ·cases qm s.strs (sb.2.2,l.cur)<;>exact⟨rfl,rfl⟩
    ·exact⟨rfl,rfl⟩
  ·exact⟨rfl,rfl⟩
def QK (d: ∀s a,(f s a).lanes=s.lanes/\(f s a).pks=s.pks): ∀(L:List α) (s:RmS),(L.foldl f s).lanes=s.lanes/\(L.foldl f s).pks=s.pks
 | [],_=>⟨rfl,rfl⟩
 | a::L,s=>by
  rw[B6];exact⟨(QK d L _).1.trans (d s a).1,(QK d L _).2.trans (d s a).2⟩
def CJ (s:RmS) (b:List Int):(s.tell b).lanes=s.lanes/\(s.tell b).pks=s.pks:=by
 unfold RmS.tell;split
 ·exact QK (f:=RmS.tellS) (λs src=>QK (f:=RmS.tell1) Di _ s) _ _
 ·exact⟨rfl,rfl⟩
structure Pbr (s s':RmS):Prop where
 pks:s'.pks=s.pks
 tab:s'.tab.u=s.tab.u
 book: ∀k,qm s'.book k=ϊ 0->qm s.book k=ϊ 0
 lanes: ∀x l',qm s'.lanes x=ϊ l'-> ∃l,qm s.lanes x=ϊ l/\List.Sublist (UH l') (UH l)/\l'.gone=l.gone
def Pbr.refl (s:RmS):Pbr s s:=⟨rfl,rfl,λ_ h=>h,λx l h=>⟨l,h,O0 _,rfl⟩⟩
def Pbr.trans {s'':RmS} (h:Pbr s s') (k:Pbr s' s''):Pbr s s'':=by
 refine⟨k.pks.trans h.pks,k.tab.trans h.tab,λq e=>h.book q (k.book q e),λx l e=> ?_⟩;obtain⟨J,d,s1,H⟩:=k.lanes x l e;obtain⟨N,G,s2,I⟩:=h.lanes x J d;exact⟨N,G,s1.trans s2,H.trans I⟩
def Pbr.same (d:s'.pks=s.pks) (G:s'.tab.u=s.tab.u) (H:s'.book=s.book) (I:s'.lanes=s.lanes):Pbr s s':=
 ⟨d,G,λ_ h=>by rw[<-H];exact h,λx l h=>⟨l,by rw[<-I];exact h,O0 _,rfl⟩⟩
def Pbr.fold (d: ∀s a,Pbr s (f s a)): ∀(L:List α) (s:RmS),Pbr s (L.foldl f s)
 | [],s=>Pbr.refl s
 | a::L,s=>(d s a).trans (Pbr.fold d L (f s a))
def Dg (s:RmS) (x:Int):Pbr s (s.tell1 x):=by
 unfold RmS.tell1;cases qm s.tab.u x with
 | none=>exact Pbr.refl s
 | some sb=>
  simp only;split
  ·cases qm s.lanes x with
   | none=>exact Pbr.refl s
   | some l=>
    simp only;split
    ·cases qm s.strs (sb.2.2,l.cur) with
     | none=>exact Pbr.refl s
     | some t=>exact Pbr.same rfl rfl rfl rfl
    ·exact Pbr.refl s
  ·exact Pbr.refl s
def CI (s:RmS) (b:List Int):Pbr s (s.tell b):=by
 unfold RmS.tell;split
 ·have d:Pbr s {s with cnt:={s.cnt with told:=s.cnt.told+1}}:=Pbr.same rfl rfl rfl rfl;exact d.trans (Pbr.fold (f:=RmS.tellS) (λs src=>Pbr.fold (f:=RmS.tell1) Dg _ s) _ _)
 ·exact Pbr.same rfl rfl rfl rfl
def Ml (t:TS) (p s0 s1 s2:Int):(yv t p s0 s1 s2).1.u=t.u:=by
 unfold yv;split
 ·split
  ·rfl
  ·split
   ·rfl
   ·split<;>rfl
 ·rfl
def zh (s:RmS) (x:Int):Int:=match qm s.tab.u x with
 | some sb=>if sb.2.1 then sb.2.2 else -1
 | none=> -1
def kG (jo:Int->Int) (a:A22) (e:Int):Int->Int:=λx=>if a.act=4/\e=0/\x=a.sub then a.own else jo x
def Po (h:qm s.lanes x=ϊ l):s.ln x=l:=by unfold RmS.ln;rw[h];rfl
def Ff (k:Loc s s') (x:Int) {l':LnS} (h:qm s'.lanes x=ϊ l'): ∃l,qm s.lanes x=ϊ l/\l'.gone=l.gone:=by
 have:=k.lanes x;rw[h] at this;cases hl:qm s.lanes x with
 | none=>rw[hl] at this;cases this
 | some l=>
  rw[hl] at this;simp only[D0,N5] at this;exact⟨l,rfl,ϰ Prod.fst this⟩
def Ao (s:RmS) (w:Og):s.drain w={s with queue:=[],cnt:={s.cnt with lost:=s.cnt.lost+s.queue.length}}∨Loc s (s.drain w):=by
 unfold RmS.drain;split
 ·exact ϐ rfl
 ·split
  ·exact ϓ (yt gS _ s)
  ·exact ϓ (gT s w)
structure PkR (s s':RmS):Prop where
 tab: ∀x,(s'.ln x).gone=ύ->qm s'.tab.u x=qm s.tab.u x
 gone: ∀x l l',qm s.lanes x=ϊ l->qm s'.lanes x=ϊ l'->l.gone=ύ->l'.gone=ό->s'.pks=s.pks/\List.Sublist (UH l') (UH l)
def PkR.loc (k:Loc s s'):PkR s s':=⟨λx _=>by rw[k.tab],λx l l' H I J N=>by
 obtain⟨m,d,G⟩:=Ff k x I;rw[H] at d;injection d with d
 rw[<-d,J,N] at G
 cases G⟩
def PkR.same (H:s'.tab=s.tab) (I:s'.lanes=s.lanes):PkR s s':=⟨λx _=>by rw[H],λx l l' J d N G=>by
 rw[I,J] at d;injection d with d
 rw[<-d,N] at G
 cases G⟩
def CV (s:RmS) (w:Og) (acc:Bool):PkR s (s.stepW w acc):=by
 unfold RmS.stepW;split
 ·unfold RmS.endW;have N:PkR s (s.drain w):=by
   rcases Ao s w with e | e
   ·rw[e];exact PkR.same rfl rfl
   ·exact PkR.loc e
  split
  ·exact⟨N.tab,N.gone⟩
  ·exact N
 ·split
  ·unfold RmS.read;cases s.queue with
   | nil=>exact PkR.same rfl rfl
   | cons b q=>
    simp only;split
    ·have U:=CI {s with queue:=q} b
     exact⟨λx _=>by rw[U.tab],λx l l' G d J H=>by
      rw[(CJ {s with queue:=q} b).1] at d;simp only at d;rw[G] at d;injection d with d
      rw[<-d,J] at H
      cases H⟩
    ·unfold RmS.media;split
     ·cases qm ({s with queue:=q}:RmS).tab.o (jS b).1.sc with
      | none=>exact PkR.same rfl rfl
      | some o=>
       simp only;unfold RmS.accept;cases qm ({s with queue:=q}:RmS).strs o with
       | none=>exact PkR.same rfl rfl
       | some t=>exact PkR.same rfl rfl
     ·exact PkR.same rfl rfl
  ·split
   ·exact PkR.loc (zd s)
   ·split
    ·exact PkR.loc (xv s _)
    ·split
     ·exact PkR.loc (j6 s _)
     ·refine⟨λx I=> ?_,λx l l' G d J H=> ?_⟩
      ·unfold RmS.write at I ⊢;cases hl:qm s.lanes w.2 with
       | none=>rfl
       | some l=>
        rw[hl] at I;simp only at I ⊢;cases hg:(qJ l acc).1.gone with
        | false=>simp only[Ϭ,C4]
        | true=>
         simp only[Ψ];have O:x≠w.2:=λe=>by
          rw[e,Po (xq _ _ _),hg] at I;cases I
         unfold zl;split
         ·split
          ·simp only;rw[qE,ώ O]
          ·rfl
         ·rfl
      ·unfold RmS.write at d ⊢;cases hl:qm s.lanes w.2 with
       | none=>rw[hl] at d;simp only at d;rw[G] at d;injection d with d;rw[<-d,J] at H;cases H
       | some m=>
        rw[hl] at d;simp only at d ⊢;rw[qE] at d;split at d
        ·rename_i e;injection d with d
         rw[e,hl] at G;injection G with G
         rw[<-d,<-G];exact⟨trivial,Dl m acc⟩
        ·rw[G] at d;injection d with d;rw[<-d,J] at H;cases H
def uX (h:qm s'.tab.u x=qm s.tab.u x):zh s' x=zh s x:=by unfold zh;rw[h]
def IY (ai:qT n s) (ag:(s.tab.u.map Prod.fst).Nodup) (a:A22) (x:Int) (Y:((doR s a).1.ln x).gone=ύ):
  zh (doR s a).1 x=if (doR s a).2.1=0/\a.act=5/\x=a.sub then a.pub else if (doR s a).2.1=0/\a.act=7/\x=a.sub then -1 else zh s x:=by
 by_cases h5:a.act=5
 ·have e:doR s a=((s.subscribe a.sub a.pub a.layer).1,(s.subscribe a.sub a.pub a.layer).2,ύ):=by unfold doR;simp[h5]
  rw[e];simp only;rw[ώ (c:=_/\a.act=7/\_) (λc=>by have:=c.2.1;omega)];by_cases d:(s.subscribe a.sub a.pub a.layer).2=0
  ·unfold RmS.subscribe at d ⊢;split at d
   ·simp at d
   ·rename_i U;rw[ώ U];split at d
    ·simp at d
    ·rename_i N;rw[ώ N];split at d
     ·simp at d
     ·rename_i J;rw[ώ J];split at d
      ·rename_i G;rw[ϒ G];have H:(0<=a.sub/\a.sub<6)/\(0<=a.pub/\a.pub<3):=by
        unfold yI at G;split at G
        ·assumption
        ·simp at G
       have O:(qm s.tab.u a.sub).isSome=ό/\(qm s.tab.s (a.pub,0)).isSome=ό:=by
        unfold yI at G;rw[ϒ H] at G;split at G
        ·assumption
        ·simp at G
       obtain⟨ad,af⟩:=Ϟ.1 O.1;have ah:ad.2.1=ύ:=by
        unfold yI at G;rw[ϒ H,ϒ O,af] at G;simp only[ϩ] at G;split at G
        ·simp at G
        ·rename_i c;simpa using c
       have I:(yI s.tab a.sub a.pub).1.u=qB s.tab.u a.sub (ad.1,ό,a.pub):=by
        unfold yI;rw[ϒ H,ϒ O,af];simp only[ϩ];rw[ώ (by rw[ah];decide)]
       have ae:=ai.tb.lane a.sub;rw[O.1] at ae;obtain⟨l,aa⟩:=Ϟ.1 ae.symm;rw[aa] at d ⊢;simp only at d ⊢;by_cases hxs:x=a.sub
       ·rw[ϒ ⟨d,h5,hxs⟩];unfold zh;simp only;rw[I,qE,ϒ hxs];rfl
       ·rw[ώ (λc=>hxs c.2.2)];refine uX ?_;simp only;rw[I,qE,ώ hxs]
      ·rename_i G;exact ϧ d G
  ·rw[ώ (λc=>d c.1)];unfold RmS.subscribe at d ⊢;split at d
   ·rename_i U;rw[ϒ U]
   ·rename_i U;rw[ώ U];split at d
    ·rename_i N;rw[ϒ N]
    ·rename_i N;rw[ώ N];split at d
     ·rename_i J;rw[ϒ J]
     ·rename_i J;rw[ώ J];split at d
      ·rename_i G;rw[ϒ G];cases aa:qm s.lanes a.sub with
       | none=>rfl
       | some l=>
        exfalso;rw[aa] at d;apply d;simp only;unfold jA;rw[ώ N,ώ (by unfold Jj at J;rw[aa] at J;exact J)]
      ·rename_i G;rw[ώ G]
 ·rw[ώ (λc=>h5 c.2.1)];by_cases h7:a.act=7
  ·have e:doR s a=((s.leave a.sub).1,(s.leave a.sub).2,ύ):=by unfold doR;simp[h7]
   rw[e];simp only;unfold RmS.leave;split
   ·rw[ώ (λc=>by have:=c.1;simp at this)]
   ·split
    ·rename_i d;have H:0<=a.sub/\a.sub<6:=by
      unfold zb at d;split at d
      ·assumption
      ·simp at d
     have O:(qm s.tab.u a.sub).isSome=ό:=by
      unfold zb at d;rw[ϒ H] at d;split at d
      ·assumption
      ·simp at d
     have I:(zb s.tab a.sub).1.u=yX s.tab.u a.sub:=by
      unfold zb;rw[ϒ H,ϒ O]
     by_cases hxs:x=a.sub
     ·rw[ϒ ⟨rfl,h7,hxs⟩];unfold zh;simp only;rw[I,uk ag,ϒ hxs]
     ·rw[ώ (λc=>hxs c.2.2)];refine uX ?_;simp only;rw[I,uk ag,ώ hxs]
    ·rename_i d;rw[ώ (λc=>d c.1)]
  ·rw[ώ (λc=>h7 c.2.1)];by_cases h1:a.act=1
   ·rw[Zk a h1] at Y ⊢;refine uX ?_;unfold RmS.pick at Y ⊢;split at Y
    ·rename_i ab;rw[ϒ ab];exact(CV s a.w a.acc).tab x Y
    ·rename_i ab;rw[ώ ab]
   ·by_cases h4:a.act=4
    ·have e:doR s a=((s.join a.sub a.own a.seq a.stamp).1,(s.join a.sub a.own a.seq a.stamp).2,ύ):=by unfold doR;simp[h4]
     rw[e];simp only;unfold RmS.join;split
     ·rfl
     ·split
      ·rename_i d;have H:0<=a.sub/\a.sub<6:=by
        unfold zV at d;split at d
        ·assumption
        ·simp at d
       have ac:(qm s.tab.u a.sub).isSome=ύ:=by
        unfold zV at d;rw[ϒ H] at d;split at d
        ·simp at d
        ·rename_i c;simpa using c
       have I:(zV s.tab a.sub a.own).1.u=qB s.tab.u a.sub (a.own,ύ,0):=by
        unfold zV;rw[ϒ H,ώ (by rw[ac];decide)]
       by_cases hxs:x=a.sub
       ·unfold zh;simp only;rw[I,qE,ϒ hxs,hxs];cases hb:qm s.tab.u a.sub with
        | none=>rfl
        | some ad=>rw[hb] at ac;cases ac
       ·refine uX ?_;simp only;rw[I,qE,ώ hxs]
      ·rfl
    ·refine uX ?_;unfold doR;split
     ·unfold RmS.arrive;split
      ·rfl
      ·split<;>rfl
     ·split
      ·unfold RmS.tick;split
       ·rfl
       ·exact ϰ (λt:TS=>qm t.u x) (kM s.origins {s with clock:=s.clock+1}).tab
      ·split
       ·unfold RmS.publish;split
        ·rfl
        ·split
         ·simp only;rw[Ml]
         ·rfl
       ·split
        ·unfold RmS.want;split
         ·rfl
         ·split
          ·rfl
          ·split
           ·rfl
           ·cases qm s.lanes a.sub<;>rfl
        ·split
         ·unfold RmS.shut;split<;>rfl
         ·rfl
def vm (sf:Og->Option Int) (a:A22) (e:Int):Og->Option Int:=λo=>if e=0/\a.act=3 then (if o=(a.pub,2) then ϊ a.s2 else if o=(a.pub,1) then ϊ a.s1 else if o=(a.pub,0) then ϊ a.s0 else sf o) else sf o
def wM (pu:Int->Int) (a:A22) (e:Int) (s':RmS):Int->Int:=λx=>
 if (s'.ln x).gone then -1 else if e=0/\a.act=5/\x=a.sub then a.pub else if e=0/\a.act=7/\x=a.sub then -1 else pu x
def ET (H:qT n s) (J:(s.tab.u.map Prod.fst).Nodup) (a:A22) (I:qT (n+1) (doR s a).1) (x:Int):wM (zh s) a (doR s a).2.1 (doR s a).1 x=zh (doR s a).1 x:=by
 unfold wM;cases hg:((doR s a).1.ln x).gone with
 | false=>simp only[Ϭ,C4];exact(IY H J a x hg).symm
 | true=>
  rw[ϒ rfl];unfold zh;cases hb:qm (doR s a).1.tab.u x with
  | none=>rfl
  | some sb=>
   simp only;cases hs:sb.2.1 with
   | false=>rfl
   | true=>
    obtain⟨l,d,G,_⟩:=I.tb.act x sb hb hs;rw[Po d,G] at hg;cases hg
def TbI (t:TS):Prop:= ∀o v,qm t.s o=ϊ v->qm t.o v=ϊ o
def SmT (t t':TS):Prop:=t'.s=t.s/\t'.o=t.o
def Db (t:TS) (x:Int):SmT t (zl t x).1:=by
 unfold zl
 repeat' split
 all_goals exact⟨rfl,rfl⟩
def CU (s:RmS) (w:Og) (acc:Bool):SmT s.tab (s.stepW w acc).tab:=by
 have e: ∀{t:TS},t=s.tab->SmT s.tab t:=λh=>by rw[h];exact⟨rfl,rfl⟩
 unfold RmS.stepW;split
 ·unfold RmS.endW;split<;>exact e (IL s w).2.1
 ·split
  ·exact e (gN s).2
  ·split
   ·exact e (zd s).tab
   ·split
    ·exact e (xv s _).tab
    ·split
     ·exact e (j6 s _).tab
     ·unfold RmS.write;cases hl:qm s.lanes w.2 with
      | none=>exact⟨rfl,rfl⟩
      | some m=>
       simp only;split
       ·exact Db _ _
       ·exact⟨rfl,rfl⟩
def Vx (s:RmS) (a:A22) (d:a.act≠3):SmT s.tab (doR s a).1.tab:=by
 by_cases ha1:a.act=1
 ·rw[Zk a ha1];unfold RmS.pick;split
  ·exact CU s a.w a.acc
  ·exact⟨rfl,rfl⟩
 ·unfold doR;split
  ·unfold RmS.arrive
   repeat' split
   all_goals exact⟨rfl,rfl⟩
  ·split
   ·unfold RmS.tick;split
    ·exact⟨rfl,rfl⟩
    ·have k:=kM s.origins {s with clock:=s.clock+1};simp only;rw[k.tab];exact⟨rfl,rfl⟩
   ·split
    ·unfold RmS.join zV
     repeat' split
     all_goals exact⟨rfl,rfl⟩
    ·split
     ·unfold RmS.subscribe yI
      repeat' split
      all_goals exact⟨rfl,rfl⟩
     ·split
      ·unfold RmS.want
       repeat' split
       all_goals exact⟨rfl,rfl⟩
      ·split
       ·unfold RmS.leave zb
        repeat' split
        all_goals exact⟨rfl,rfl⟩
       ·split
        ·unfold RmS.shut;split<;>exact⟨rfl,rfl⟩
        ·exact⟨rfl,rfl⟩
def Id (h:TbI t) (p s0 s1 s2:Int):TbI (yv t p s0 s1 s2).1:=by
 unfold yv;split
 ·split
  ·exact h
  ·rename_i d;split
   ·exact h
   ·split
    ·exact h
    ·rename_i G;unfold VY at d;intro o v e;show qm (qB (qB (qB t.o s0 (p,0)) s1 (p,1)) s2 (p,2)) v=ϊ o;have e:qm (qB (qB (qB t.s (p,0) s0) (p,1) s1) (p,2) s2) o=ϊ v:=e;simp only[qE] at e ⊢;split at e
     ·rename_i c;injection e with e;rw[ϒ e.symm,c]
     ·split at e
      ·rename_i c;injection e with e
       rw[ώ (λq=>d (ϓ (ϓ τ))),ϒ e.symm,c]
      ·split at e
       ·rename_i c;injection e with e
        rw[ώ (λq=>d (ϓ (ϐ τ))),ώ (λq=>d (ϐ τ)),ϒ e.symm,c]
       ·have k:=h o v e;have g: ∀z,z=v->(qm t.o z).isSome=ό:=λz H=>by rw[H,k];rfl
        rw[ώ (λq=>G (ϓ (ϓ (g _ q.symm)))),ώ (λq=>G (ϓ (ϐ (g _ q.symm)))),ώ (λq=>G (ϐ (g _ q.symm)))];exact k
 ·exact h
def TbI.act (h:TbI s.tab) (a:A22):TbI (doR s a).1.tab:=by
 by_cases ha:a.act=3
 ·have e:doR s a=((s.publish a.pub a.s0 a.s1 a.s2).1,(s.publish a.pub a.s0 a.s1 a.s2).2,ύ):=by unfold doR;simp[ha]
  rw[e];unfold RmS.publish;split
  ·exact h
  ·split
   ·exact Id h _ _ _ _
   ·exact h
 ·obtain⟨d,G⟩:=Vx s a ha;intro o v e;rw[d] at e;rw[G];exact h o v e
def ES (s:RmS) (a:A22) (o:Og):vm (λo=>qm s.tab.s o) a (doR s a).2.1 o=qm (doR s a).1.tab.s o:=by
 unfold vm;by_cases ha:a.act=3
 ·have e:doR s a=((s.publish a.pub a.s0 a.s1 a.s2).1,(s.publish a.pub a.s0 a.s1 a.s2).2,ύ):=by unfold doR;simp[ha]
  rw[e];unfold RmS.publish;split
  ·rw[ώ η]
  ·split
   ·rename_i d;rw[ϒ ⟨rfl,ha⟩];simp only;unfold yv at d ⊢;split at d
    ·split at d
     ·exact ϧ d η
     ·split at d
      ·exact ϧ d η
      ·split at d
       ·exact ϧ d η
       ·rename_i c1 c2 c3 c4;rw[ϒ c1,ώ c2,ώ c3,ώ c4];show _=qm (qB (qB (qB s.tab.s (a.pub,0) a.s0) (a.pub,1) a.s1) (a.pub,2) a.s2) o;simp only[qE]
    ·exact ϧ d η
   ·rename_i d;rw[ώ (λq=>d q.1)]
 ·rw[ώ (λq=>ha q.2),(Vx s a ha).1]
def TbU (t:TS):Prop:= ∀p,(qm t.s (p,0)).isSome=ό->(qm t.s (p,1)).isSome=ό/\(qm t.s (p,2)).isSome=ό
def Ic (h:TbU t) (p s0 s1 s2:Int):TbU (yv t p s0 s1 s2).1:=by
 unfold yv
 repeat' split
 all_goals first | exact h | skip
 intro q e;have e:(qm (qB (qB (qB t.s (p,0) s0) (p,1) s1) (p,2) s2) (q,0)).isSome=ό:=e;show (qm (qB (qB (qB t.s (p,0) s0) (p,1) s1) (p,2) s2) (q,1)).isSome=ό/\(qm (qB (qB (qB t.s (p,0) s0) (p,1) s1) (p,2) s2) (q,2)).isSome=ό;simp only[qE] at e ⊢;by_cases c:q=p
 ·subst c;simp
 ·simp only[C7,c,false_and,C4] at e ⊢;exact h q e
def TbU.act (h:TbU s.tab) (a:A22):TbU (doR s a).1.tab:=by
 by_cases ha:a.act=3
 ·have e:doR s a=((s.publish a.pub a.s0 a.s1 a.s2).1,(s.publish a.pub a.s0 a.s1 a.s2).2,ύ):=by unfold doR;simp[ha]
  rw[e];unfold RmS.publish;split
  ·exact h
  ·split
   ·exact Ic h _ _ _ _
   ·exact h
 ·obtain⟨d,G⟩:=Vx s a ha;intro p;rw[d];exact h p
def Hk (U:s.closed=ύ) (Y:Y6 s) (h:(s.want x k).2=0): ∃l,qm s.lanes x=ϊ l/\l.gone=ύ/\LnT x k (s.want x k).1.lanes/\(s.want x k).1.tab=s.tab/\(s.want x k).1.queue=s.queue/\je k=ό/\x∈prR (jH (zh s x)) s.tab.u:=by
 unfold RmS.want at h ⊢;rw[ώ (by rw[U];decide)] at h ⊢;split at h
 ·exact ϧ h η
 ·rename_i I;rw[ώ I];split at h
  ·exact ϧ h η
  ·rename_i d;rw[ώ d];cases hu:qm s.tab.u x with
   | none=>rw[hu] at d;exact(d rfl).elim
   | some sb=>
    rw[hu] at d;simp only[ϩ] at d;have J:sb.2.1=ό:=by cases q:sb.2.1 with | true=>rfl | false=>exact(d q).elim
    obtain⟨l,O,G,aa⟩:=Y.act x sb hu J;have H:(0<=x/\x<6)/\je k=ό:=by
     have:0<=x/\x<6/\je k=ό:=by simpa [and_assoc] using I
     exact⟨⟨this.1,this.2.1⟩,this.2.2⟩
    rw[O] at h ⊢;simp only at h ⊢;have N:(jA l k).1.tgt=k/\(jA l k).1.gone=ύ:=by
     unfold jA;rw[ώ (by rw[H.2];decide),ώ (by rw[G];decide)];exact⟨rfl,G⟩
    refine⟨l,rfl,G,⟨_,xq _ _ _,N.1,N.2⟩,trivial,trivial,H.2, ?_⟩;rw[mem_prR];refine⟨subIds_iff.2 H.1,sb,hu, ?_⟩;unfold jH zh;rw[hu];simp[J]
def Az (d:s.closed=ύ) (b:List Int):(s.arrive b).2=0/\(s.arrive b).1.closed=ύ/\(∃q,(s.arrive b).1.queue=q++[b])/\(s.arrive b).1.lanes=s.lanes/\(s.arrive b).1.tab=s.tab:=by
 unfold RmS.arrive;rw[ώ (by rw[d];decide)];split
 ·exact⟨rfl,d,⟨_,rfl⟩,rfl,rfl⟩
 ·exact⟨rfl,d,⟨_,rfl⟩,rfl,rfl⟩
def kfP (sq sc:Int):Pk:=⟨ύ,0,sq,0,sc,[],ύ,0,[],[16,0]⟩
def DZ (sq sc:Int):xO (kfP sq sc).pl=ό:=by
 show xO [16,0]=ό
 decide+kernel
def uZ (sq sc:Int):jD (kfP sq sc)=ό:=by
 rw[jZ];exact⟨by show (0:Int)<=127;decide,by show ((0:Nat):Int)<=15;decide,λ_=>⟨rfl,rfl⟩,by show ((0:Nat):Int)%4=0;decide,by show 12+4* ((0:Nat):Int)+((2:Nat):Int)+0<=200;decide⟩
def Gy {sc:Int} (I:U16 sq) (J:U32 sc):ud (kfP sq sc):=by
 have N:U16 0:=⟨ζ,ζ⟩;have d:U32 0:=⟨ζ,ζ⟩;have G:Byt ([]:List Int):=Byt.of_all ζ;have H:Byt ([16,0]:List Int):=Byt.of_all ζ;exact⟨by show (0:Int)<=0/\(0:Int)<=255;decide,I,d,J,λi=>by show U32 (([]:List Int).getD i 0);rw[List.getD_nil];exact d,N,G,H⟩
def ID {sc:Int} (H:U16 sq) (I:U32 sc):jS (pkB (kfP sq sc))=(kfP sq sc,0):=by
 have G:=Xw (kfP sq sc);have d:=((jZ _).1 (uZ sq sc)).2.2.2.2;rw[<-G] at d;exact El (uZ sq sc) (Gy H I) (kfP sq sc).pl (by unfold pkB at d;rw[Ϗ] at d;omega)
def MQ (sq sc:Int):Y5 (pkB (kfP sq sc))=ύ:=by
 have e:(pkB (kfP sq sc)).getD 1 0=0:=by
  unfold pkB Xg uc;have a:qy (kr (kfP sq sc)) 1++qy (uJ (kfP sq sc)) 1=[128,0]:=by
   show qy (kr (kfP 0 0)) 1++qy (uJ (kfP 0 0)) 1=[128,0]
   decide+kernel
  rw[a];rfl
 unfold Y5;rw[e];simp
def KfQ.picks: ∀(L:List Og) {s:RmS},KfQ x k o p s->KfQ x k o p (s.picks ό L)
 | [],_,h=>h
 | w::L,_,h=>KfQ.picks L (h.pick w)
def KfQ.ticks (h:KfQ x k o p s) (n:Nat):KfQ x k o p (s.tickN n):=by
 obtain⟨H,P,e,d⟩:=h.ex;obtain⟨_,_,_,_,_,_,_,G⟩:=yP n d.closed;exact⟨H,P,G.trans e,d.ticks n⟩
def Wm {src:Int} (h:ZU x k o (pkB (kfP sq src)) src s) (N:U16 sq) (O:U32 src) (U:o.2=k) (ae:s.queue.length<=s.cfg.room.toNat) (d H:List (List Og)) (ad:d.length=s.cfg.room.toNat) (ac: ∀L∈d,((0,0):Og)∈L) (n:Nat) (s3:RmS)
  (J:((s.picks ό d.flatten).tickN n).picks ό H.flatten=s3) (Y: ∀x i,qm s3.book (x,i)≠ϊ 0):
  ∃G P,s3.pks=P++[⟨o,G,kfP sq src⟩]/\ ∃l v,qm s3.lanes x=ϊ l/\qm s3.book (x,(P.length:Int))=ϊ v/\l.tgt=k/\(v=2∨v=3∨v=6∨v=1/\l.cur=k):=by
 obtain⟨_,_,a3⟩:=Zo h.closed ό d ac;have q:KfQ x k o (kfP sq src) (s.picks ό d.flatten):=by
  rcases Ys (x:=x) (k:=k) (o:=o) (MQ sq src) (ID N O) U (DZ sq src) d.flatten (s:=s) (ϐ h) with c | c
  ·exfalso;obtain⟨z,aa⟩:=c.queue;rw[aa,Ϗ,B4] at a3;omega
  ·exact c
 have I:=(q.ticks n).picks H.flatten;rw[J] at I;obtain⟨G,P,e,ab⟩:=I.ex;exact⟨G,P,e,ab.fin (Y x _)⟩
def gf (L:List Og) (i:Nat):List Og:=(List.range L.length).map λk=>L.getD ((i+k)%L.length) (0,0)
def zi (L M:List Og):Nat->List Og
 | 0=>[]
 | n+1=>zi L M n++(M++gf L n)
def QF (L:List Og) (i:Nat):(gf L i).length=L.length:=by unfold gf;simp
def vD (L M:List Og): ∀n,(zi L M n).length=n* (M.length+L.length)
 | 0=>by simp[zi]
 | n+1=>by
  rw[zi,Ϗ,Ϗ,QF,vD L M n,C9];omega
def Fc {L:List Og} {w:Og} (h:w∈L) (i:Nat):w∈gf L i:=by
 obtain⟨j,d,rfl⟩:=ε.1 h;have G:0<L.length:=by omega
 have I:i%L.length<L.length:=G6 _ G;refine C1.2 ⟨(j+(L.length-i%L.length))%L.length,M3.2 (G6 _ G), ?_⟩;have e:(i+(j+(L.length-i%L.length))%L.length)%L.length=j:=by
  rw[Nat.add_mod,Nat.mod_mod];rw[<-Nat.add_mod];have H:i+(j+(L.length-i%L.length))=j+(L.length* (i/L.length)+L.length):=by
   have:=T2 i L.length;omega
  rw[H,show L.length* (i/L.length)+L.length=L.length* (i/L.length+1) by rw[Nat.mul_add,W4],Nat.add_mul_mod_self_left,O2 d]
 rw[e,ϑ,ϖ d];rfl
section
variable {T:Nat->Tg} {w0 w w':World} {k:RmK} {vp vr:Value} {s:RmS} {F:List Nat}
def Nu (h:RmX T w0 w k vp vr s F) {I:Nat} (av:SlI .u8 w (δ H b.length I) b) (N:Byt b) (ah:b≠[]-> ∀g,(δ H b.length I).ownBlock=ϊ g->T g= .data/\g<w.heap.size):
  Calls prog 83 #[γ k.RQ,δ H b.length I] w λe w'=> ∃vx,e= .returned (.tuple #[vx,(!decide (s.queue.length<s.cfg.room.toNat)),ι 0])/\
   qL w0 w' k {s with queue:=if s.queue.length<s.cfg.room.toNat then s.queue++[b] else s.queue.tail++[b]} F/\qA F w w'/\qk (RgB k.RQ k.AQ) w w':=by
 obtain⟨f,Q,af,ag,ad,ae,css,g,a⟩:=h.que;obtain⟨t1,t2,_⟩:=h.all .queue;have ai:=g.fits;have aj:=a.len;have key: ∀{w':World} {D:Nat->Prop},qk (RgB k.RQ k.AQ) w w'->(∀c,D c->T c≠ .data∨w.heap.size<=c)->jv RBy D w' [δ H b.length I] b:=by
  intro w' D d G w'' al
  have s1:=av.off2 (D:=RgB k.RQ k.AQ) (λab c aa ac=>by
   have:=(ah ab c aa).1;rcases ac with rfl | rfl
   ·rw[t1] at this;cases this
   ·rw[t2] at this;cases this) d
  refine⟨_,rfl,s1.off2 (D:=D) (λab c aa ac=> ?_) al,N⟩;obtain⟨ap,aw⟩:=ah ab c aa;rcases G c ac with q | q
  ·exact q ap
  ·omega
 have ak: ∀{w':World} {D:Nat->Prop} {J:List (List Value)} {q':List (List Int)},zR (jv RBy (λb=>T b≠ .data) w) J q'->qk (RgB k.RQ k.AQ) w w'->(∀c,D c->T c≠ .data∨w.heap.size<=c)->zR (jv RBy D w') J q':=by
  intro w' D J q' a d G;have am:qk (λb=>T b≠ .data) w w':=d.mono λb N=>by
   rcases N with rfl | rfl
   ·rw[t1];simp
   ·rw[t2];simp
  exact a.mono λc y aq=>(aq.step am).other λb N=>(G b N).elim ϐ (λx=>ϐ (by rw[h.fresh b x];simp))
 by_cases hq:s.queue.length<s.cfg.room.toNat
 ·rw[ϒ hq,Ϩ hq];refine(Wv w _ _ _ f Q af ag ad ae css g τ H _ I).mono ?_;rintro e w' ⟨rfl,⟨ao,an,g'⟩,d⟩;obtain⟨U,Y⟩:=h.ring (q:=s.queue++[b]) d (λD G=>⟨_,_,_,_,_,_,_,g',(ak a d G).snoc (key d G)⟩);exact⟨_,rfl,U,Y,d⟩
 ·rw[ώ hq,Ϯ hq];have O:Q.length=s.cfg.room.toNat:=by omega
  have ax:=g.pos
  match hQ:Q,a,O,g,aj,ai with
  | [],_,O,_,_,_=>simp at O;omega
  | c::J,a,O,g,aj,ai=>
   cases hs:s.queue with
   | nil=>rw[hs] at a;exact a.elim
   | cons b0 q0=>
    rw[hs] at a;obtain⟨v,rfl,⟨ar,au,rfl,_⟩,_⟩:=a.1.read;refine(Ww w _ _ _ f ar _ au J af ag ad ae css g O H _ I).mono ?_;rintro e w' ⟨rfl,⟨ao,an,g'⟩,d⟩;obtain⟨U,Y⟩:=h.ring (q:=q0++[b]) d (λD G=>⟨_,_,_,_,_,_,_,g',(ak a.2 d G).snoc (key d G)⟩);exact⟨_,rfl,by rw[V6];exact U,Y,d⟩
def PA (aH:qL w0 w k s F) (b:List Int) (v:Value) (av:SlI .u8 w v b) (ao:Byt b) (ap:b.length<=1000000) (aI:0<=s.cnt.lost/\s.cnt.lost<=1000000000):
  Calls prog 33 #[γ k.R,v] w λe w'=>e= .returned (ι (s.arrive b).2)/\qL w0 w' k (s.arrive b).1 F/\qA F w w':=by
 obtain⟨T,vp,aS,h⟩:=aH;have d:=κ h;have aF:=β7 h.blk;obtain⟨aG,ab⟩:=ν (s.closed);rw[ab] at aF;have ag:=κ ab;clear ab h;cases aG with
 | true=>
  have H:Hid (s.arrive b=(s,7)):=κ (by unfold RmS.arrive;rw[ϒ ag.o]);rw[H.o]
  go_enter func33,ntmps33
  go_wp2;go_ret;exact⟨rfl,d.o.at,qA.refl _ _⟩
 | false=>
  obtain⟨ak,ac⟩:=ν ((!decide (s.queue.length<s.cfg.room.toNat)));obtain⟨J,ad⟩:=ν ((if s.queue.length<s.cfg.room.toNat then s.queue++[b] else s.queue.tail++[b]))
  have H:Hid (s.arrive b=if ak then ({s with queue:=J,cnt:={s.cnt with lost:=s.cnt.lost+1}},0) else ({s with queue:=J},0)):=κ (by
   have aP:=d.o.que.fit;rw[<-ac,<-ad];unfold RmS.arrive;rw[ώ (by rw[ag.o];decide)];by_cases hc:s.queue.length<s.cfg.room.toNat
   ·rw[ϒ τ,Ϩ hc,ϒ hc];rfl
   ·rw[ώ τ,Ϯ hc,ώ hc]
    rfl)
  have aB:=κ (Jk v b (w.drewN 1) (av.keep (qh.drewN w 1)) ap);have aA:=κ ao;have aC:=κ d.o.fresh;have aJ: ¬RgB k.RQ k.AQ k.R:=by
   obtain⟨au,J,_⟩:=d.o.all .queue;rintro(e | e)
   ·rw[<-e,(d.o.all .room).1] at au;cases au
   ·rw[<-e,(d.o.all .room).1] at J;cases J
  have ay:=λ(x:qC (RgB k.RQ k.AQ) w)=>β10 (x.h.blk d.o.blk aJ)
  obtain⟨aQ,aR⟩:=aI;have aD:Hid ((b.length:Int)<=9223372036854775807):=κ τ;clear av ao ap
  go_enter func33,ntmps33
  go_upto_region 3 with fail
  refine QN (RgB k.RQ k.AQ) w 14 14 [5,6] ?_
  refine Qs5 ?_
  (refine Ql ?_;intro K I)
  (with_reducible refine aB.o.mono ?_)
  rintro e w5 ⟨⟨v5,rfl,O⟩,ar⟩;have N:Hid (qh w w5):=κ ((qh.drewN w 1).trans ar);have aa:=κ (SlI.of_owns O aD.o);have az:Hid (∀g,v5.ownBlock=ϊ g->w.heap.size<=g):=κ (λg G=>j8 O G);obtain⟨aK,aL,rfl⟩:=j7 O;clear O ar;refine⟨_,rfl,qn (qk.of_more N.o),I _ _ ?_⟩;clear I K ay
  obtain⟨aM,ax,an,_⟩:=(d.o.on N.o).data (λg=>b≠[]/\(δ aK b.length aL).ownBlock=ϊ g) (λg G=>by
   have al:w.heap.size<=g:=az.o g G.2
   exact⟨aC.o g al,ϙ d.o.more.size al,aa.o.old G.1 G.2,λhF=>by have:=(d.o.law g hF).2.2;omega⟩)
  have ah:=κ (Nu ax aa.o aA.o (λaq g G=>⟨an g ⟨aq,G⟩,aa.o.old aq G⟩));rw[ac,ad] at ah;have aE:=κ (d.o.at.stay N.o);clear ax an ac ad
  (refine Ql ?_;intro K I)
  (with_reducible refine ah.o.mono ?_)
  rintro e w6 ⟨aT,rfl,am,aw,aj⟩;have Y:=κ am;have ai:=κ (aE.o.trans aw);have ae:Hid (qk (RgB k.RQ k.AQ) w w6):=κ ((qk.of_more N.o).trans aj);clear am aw aj;refine⟨_,rfl,qn ae.o,I _ _ ?_⟩;clear I K
  iterate 7 (refine qz rfl rfl (qn ae.o) ?_;intro K I;go_big_quiet_op;go_big_quiet_on)
  refine qD ?_;obtain⟨_,_,U⟩:=Y.o.blk;have aN:=β16 U;have aO:=ql U 16;clear U;cases ak with
  | false=>
   go_wp2;go_ret;exact⟨by rw[H.o];rfl,by rw[H.o];exact Y.o,ai.o⟩
  | true=>
   have af:=κ (Y.o.cell 16 (ι (s.cnt.lost+1)) (s':={s with queue:=J,cnt:={s.cnt with lost:=s.cnt.lost+1}}) (λ_ _=>rfl) ⟨rfl,rfl,rfl,rfl,rfl,rfl,rfl,rfl,rfl⟩);go_wp2;go_ret;exact⟨by rw[H.o];rfl,by rw[H.o];exact af.o.1,ai.o.trans af.o.2⟩
end
def zZ.wide {I G:Nat->Prop} {L:Nat} (h:zZ I w L l) (H: ∀b,I b->G b) (N: ∀b,G b->b<w.heap.size):zZ G w L l:=by
 obtain⟨k,vo,e,x⟩:=h;have J: ∀b,lnE G k vo b->lnE I k vo b:=λb d=>d.elim (λq=>ϐ λn=>q (H b n)) ϓ
 have a:qk (λ_=>False) w w:=qk.refl _ w
 exact⟨k,vo,e,⟨N,λb d=>H b (x.muts b d),x.dist,x.blk,x.r1.step a (λq=>q) (λq=>q) (λb q=>q.elim) (λb d=>ϐ (J b d)),x.r2.step a (λq=>q) (λq=>q) (λb q=>q.elim) (λb d=>ϐ (J b d)),x.r3.step a (λq=>q) (λq=>q) (λb q=>q.elim) (λb d=>ϐ (J b d)),
  ⟨by
   obtain⟨⟨xs,o,r⟩,_⟩:=x.o
   exact⟨xs,o,λi hi=>(r i hi).other λb d=>ϐ (d.elim (λq=>ϐ λn=>q (H b n)) ϓ)⟩,λb d q=>x.o.apart b d (λn=>q (H b n))⟩,x.ok⟩⟩
section
variable {T:Nat->Tg} {w0 w w1 w':World} {k:RmK} {vp vr:Value} {s:RmS} {F:List Nat}
def RmX.laneNew (h:RmX T w0 w k vp vr s F) {p:Nat} (m:qh w w1) (U:zZ (λb=>w.heap.size<=b/\b<w1.heap.size) w1 p l)
  (ae:jm w' k.ML (Value.int .i64) Qf (qB k.LA x p)) (a:qk (λb=>b=k.ML) w1 w'):qL w0 w' {k with LA:=qB k.LA x p} {s with lanes:=qB s.lanes x l} F/\qA F w w':=by
 obtain⟨N,Y⟩:=h.all .lns;have I:=h.fresh;have ag:=Y.lt;have J:qk (λb=>T b= .lane x∨T b= .lns) w w':=(qk.of_more m).trans (a.mono λb d=>ϓ (by rw[d];exact N));have aa:w1.heap.size<=w'.heap.size:=a.size;obtain⟨y,z⟩:=h.own2 (t1:= .lane x) (t2:= .lns) (k':={k with LA:=qB k.LA x p}) (vp':=vp) (vr':=vr) (s':={s with lanes:=qB s.lanes x l}) ⟨η,η⟩ ⟨η,η⟩ J
  ⟨λaj ai G H=>by
   simp only at G H;rw[xq] at G H;injection G with G
   injection H with H
   subst G H;refine(U.away a (λb d ad=>by rw[d] at ad;omega)).wide (λb d=>(jj I η b).2 (ϓ ⟨rfl,d.1,ϗ d.2 aa⟩)) (λb d=> ?_);rcases(jj I η b).1 d with q | q
   ·rcases X8 b w.heap.size with c | c
    ·exact ϗ c J.size
    ·rw[I b c] at q;cases q
   ·exact q.2.2,by simp only[xq];rfl⟩
  ⟨(jO I η η _).2 N,ae⟩
  (λu ab ac ah y=>by
   cases u<;>first | exact y | exact ϧ rfl ac | skip
   rename_i af;have O:af≠x:=λe=>ab (by rw[e])
   unfold RmK.Holds at y ⊢;simp only;rw[kg _ _ O,kg _ _ O]
   exact y)
 exact⟨⟨_,_,_,y⟩,z⟩
def RmX.strNew (h:RmX T w0 w k vp vr s F) {t:zX} {p d:Nat} (m:qh w w1) (ae:w.heap.size<=p/\p<w1.heap.size) (ac:w.heap.size<=d/\d<w1.heap.size) (O:p≠d)
  (blk:w1.heap[p]? =ϊ (.cells (QC d t) 176 (0,0))) (buf:zC w1 d v t.buf) (aj:JOK t.buf) (ab:v.ownBlock=ϋ)
  (ai:jm w' k.MS kO Qf (qB k.SA o p)) (a:qk (λb=>b=k.MS) w1 w'):qL w0 w' {k with SA:=qB k.SA o p} {s with strs:=qB s.strs o t} F/\qA F w w':=by
 obtain⟨aa,ad⟩:=h.all .sts;have N:=h.fresh;have al:=ad.lt;have Y:qk (λb=>T b= .str o∨T b= .sts) w w':=(qk.of_more m).trans (a.mono λb G=>ϓ (by rw[G];exact aa));have af:w1.heap.size<=w'.heap.size:=a.size;have U: ∀b,w.heap.size<=b/\b<w1.heap.size->xk T (.str o) w w' b= .str o:=λb G=>(jj N η b).2 (ϓ ⟨rfl,G.1,ϗ G.2 af⟩)
 obtain⟨y,z⟩:=h.own2 (t1:= .str o) (t2:= .sts) (k':={k with SA:=qB k.SA o p}) (vp':=vp) (vr':=vr) (s':={s with strs:=qB s.strs o t}) ⟨η,η⟩ ⟨η,η⟩ Y
  ⟨λan am I J=>by
   simp only at I J;rw[xq] at I J;injection I with I
   injection J with J
   subst I J;refine⟨d,v,a.blk blk τ,⟨a.blk buf.blk τ,buf.row.away a (λg H=>by rw[ab] at H;cases H)⟩,aj,λb G=> ?_,U _ ae,U _ ac,O,λg H=>by rw[ab] at H;cases H⟩;rcases(jj N η b).1 G with q | q
   ·rcases X8 b w.heap.size with c | c
    ·exact ϗ c Y.size
    ·rw[N b c] at q;cases q
   ·exact q.2.2,by simp only[xq];rfl⟩
  ⟨(jO N η η _).2 aa,ai⟩
  (λu ag ah U y=>by
   cases u<;>first | exact y | exact ϧ rfl ah | skip
   rename_i ak;have O:ak≠o:=λe=>ag (by rw[e])
   unfold RmK.Holds at y ⊢;simp only;rw[kg _ _ O,kg _ _ O]
   exact y)
 exact⟨⟨_,_,_,y⟩,z⟩
def D7 (h: ¬(zV t x d).2=0):(zV t x d).1=t:=by
 unfold zV at h ⊢;split
 ·rename_i G;rw[ϒ G] at h;split
  ·rfl
  ·rename_i H;rw[ώ H] at h;exact ϧ rfl h
 ·rfl
def LY (aF:qL w0 w k s F) (an:yb s.cfg=ό) (x d sq st:Int) (aq:U16 sq) (ap:U32 d):
  Calls prog 35 #[γ k.R,ι x,ω d,φ sq,ω st] w λe w'=> ∃k',k'.R=k.R/\e= .returned (ι (s.join x d sq st).2)/\qL w0 w' k' (s.join x d sq st).1 F/\qA F w w':=by
 obtain⟨T,vp,aL,h⟩:=aF;have ab:=κ h;have N:=κ (vN an);have aD:=β7 h.blk;have aJ:=β11 h.blk;obtain⟨aE,ah⟩:=ν (s.closed);rw[ah] at aD;have ad:=κ ah;clear ah h an;cases aE with
 | true=>
  have O:Hid (s.join x d sq st=(s,7)):=κ (by unfold RmS.join;rw[ϒ ad.o]);rw[O.o]
  go_enter func35,ntmps35
  go_wp2;go_ret;exact⟨k,rfl,rfl,ab.o.at,qA.refl _ _⟩
 | false=>
  have aa:=κ (Ns ab.o.tab x d);obtain⟨af,H⟩:=ν ((zV s.tab x d).2);obtain⟨aG,ac⟩:=ν ((zV s.tab x d).1);by_cases e0:af=0
  ·subst e0;have O:Hid (s.join x d sq st=({s with tab:=aG,lanes:=qB s.lanes x (Y0 s.cfg.room.toNat s.cfg.most d sq st)},0)):=κ (by unfold RmS.join;rw[ώ (by rw[ad.o];decide),ϒ H,ac]);rw[H,ac] at aa;rw[O.o];clear H ac;have aA:=κ (λw'=>Mw s.cfg.room s.cfg.most d sq st s.cfg.room.toNat (by have:=N.o.1;omega) (by have:=N.o.1;omega) (by have:=N.o.1;omega) N.o.2.2.2.1 N.o.2.2.2.2 aq ap w');clear aq ap
   go_enter func35,ntmps35
   go_upto_region 6 with (go_at_call 87;(go_call aa.o as e w1 ⟨rfl,Y,U⟩;have J:=κ (UK ab.o Y U);clear Y U))
   obtain⟨aH,aK,aM,av⟩:=J.o.1;have G:=κ av;clear av;have aj: ¬k.R=k.ML:=λe=>by have q:=(G.o.all .room).1;rw[e,(G.o.all .lns).1] at q;cases q
   have ay: ∀y:qC (λb=>b=k.ML) w1,y.w'.cell? ⟨k.R,12,ϋ⟩=ϊ (.map (ϊ k.ML)):=λy=>qi (y.h.blk G.o.blk aj) 12 rfl
   have ax: ∀y:qC (λb=>b=k.ML) w1,y.w'.cell? ⟨k.R,1,ϋ⟩=ϊ (ι s.cfg.room):=λy=>qi (y.h.blk G.o.blk aj) 1 rfl
   have az: ∀y:qC (λb=>b=k.ML) w1,y.w'.cell? ⟨k.R,6,ϋ⟩=ϊ (ι s.cfg.most):=λy=>qi (y.h.blk G.o.blk aj) 6 rfl
   refine QN (λb=>b=k.ML) w1 24 24 [19,23] ?_
   refine RZ ?_
   (refine Ql ?_;intro K I)
   go_call aA.o _ as e w5 ⟨L,rfl,au,ai⟩;have ae:Hid (qh w1 w5):=κ ((qh.drewN w1 1).trans ai);have am:=κ (G.o.on (qh.drewN w1 1));have al:=κ ai;have aB:=κ au;clear ai au;refine⟨_,rfl,qn (qk.of_more ae.o),I _ _ ?_⟩;clear I K
   iterate 3 (refine qz rfl rfl (qn (qk.of_more ae.o)) ?_;intro K I;go_big_quiet_op;go_big_quiet_on)
   clear ay ax az;obtain⟨w9,ar,ao,ag,_⟩:=(am.o.lnm.more al.o).update ug underlying90 x L;have ak:=κ (am.o.laneNew al.o aB.o ao ag);have aC:=κ (G.o.at.stay (qh.drewN w1 1));unfold Qf at ar;have aw:Hid (qk (λb=>b=k.ML) w1 w9):=κ ((qk.of_more ae.o).trans ag)
   (refine Ql ?_;intro K I)
   refine⟨qn aw.o,I _ _ ?_⟩;clear I K ao ag ar;refine qD ?_;go_wp2;go_ret;exact⟨{k with LA:=qB k.LA x L},rfl,rfl,ak.o.1,J.o.2.trans (aC.o.trans ak.o.2)⟩
  ·have aI:(af != 0)=ό:=by simp[e0]
   have O:Hid (s.join x d sq st=(s,af)):=κ (by unfold RmS.join;rw[ώ (by rw[ad.o];decide),H,ώ e0]);rw[D7 (by rw[H];exact e0),H] at aa;rw[O.o];clear H ac e0
   go_enter func35,ntmps35
   go_wp2_with (go_at_call 87;(go_call aa.o as e w1 ⟨rfl,Y,U⟩;have J:=κ (UK ab.o Y U);clear Y U))
   go_ret;exact⟨k,rfl,rfl,J.o.1,J.o.2⟩
end
def Ma (c:CfR) (p:Int) (m:List (Og×zX)):Nat->List (Og×zX)
 | 0=>m
 | i+1=>qB (Ma c p m i) (p,(i:Int)) (ub c)
def Ev {p s0 s1 s2:Int} (h: ¬(yv t p s0 s1 s2).2=0):(yv t p s0 s1 s2).1=t:=by
 unfold yv at h ⊢;split
 ·rename_i d;rw[ϒ d] at h;split
  ·rfl
  ·rename_i G;rw[ώ G] at h;split
   ·rfl
   ·rename_i H;rw[ώ H] at h;split
    ·rfl
    ·rename_i I;rw[ώ I] at h;exact ϧ rfl h
 ·rfl
section
variable {T:Nat->Tg} {w0 w w1 w':World} {k:RmK} {vp vr:Value} {s:RmS} {F:List Nat}
def OV (h:RmX T w0 w k vp vr s F) (b:ju w' k.tb k.ta k.tc k.td t) (a:qk (λx=>x=k.ta∨x=k.tc) w w'):qL w0 w' k {s with tab:=t} F/\qA F w w':=
 h.table b (a.mono λ_ e=>e.elim ϐ λq=>ϓ (ϐ q))
def KY (bh:qL w0 w k s F) (aK:yb s.cfg=ό) (p s0 s1 s2:Int):
  Calls prog 45 #[γ k.R,ι p,θ #[ω s0,ω s1,ω s2]] w λe w'=> ∃k',k'.R=k.R/\e= .returned (ι (s.publish p s0 s1 s2).2)/\qL w0 w' k' (s.publish p s0 s1 s2).1 F/\qA F w w':=by
 obtain⟨T,vp,bo,h⟩:=bh;obtain⟨W1,J⟩:=ν (w.alloc (.cells #[ω s0,ω s1,ω s2] 40));have aD:Hid (qh w W1):=κ (by rw[<-J];exact qh.alloc _ _);have aU:Hid (W1.heap[w.heap.size]? =ϊ (.cells #[ω s0,ω s1,ω s2] 40 (0,0))):=κ (by rw[<-J];exact qp w _);have d:=κ (h.on aD.o);have aF:=κ (h.at.stay aD.o);have az:=κ (vN aK);have bf:=β7 d.o.blk;obtain⟨bg,am⟩:=ν (s.closed);rw[am] at bf;have ad:=κ am;clear am aK;cases bg with
 | true=>
  have G:Hid (s.publish p s0 s1 s2=(s,7)):=κ (by unfold RmS.publish;rw[ϒ ad.o]);rw[G.o];clear h
  go_enter func45,ntmps45
  go_upto_region 1 with fail
  (try rw[J])
  clear J;go_wp2;go_ret;exact⟨k,rfl,rfl,d.o.at,aF.o⟩
 | false=>
  have af:=κ (Ba (d.o.tab.more (qh.drewN W1 1)) p s0 s1 s2);unfold un at af;obtain⟨aj,an⟩:=ν ((yv s.tab p s0 s1 s2).2);obtain⟨ar,ap⟩:=ν ((yv s.tab p s0 s1 s2).1);rw[an,ap] at af;have aS: ¬(k.R=k.ta∨k.R=k.tc):=by
   obtain⟨_,O,U,_⟩:=d.o.all .table;rintro(e | e)
   ·rw[<-e,(d.o.all .room).1] at O;cases O
   ·rw[<-e,(d.o.all .room).1] at U;cases U
  have aR: ¬(w.heap.size=k.ta∨w.heap.size=k.tc):=by
   obtain⟨_,O,U,_⟩:=h.all .table;have aT:=h.fresh w.heap.size (ϕ _);rintro(e | e)
   ·rw[<-e,aT] at O;cases O
   ·rw[<-e,aT] at U;cases U
  have aX:=λ(x:qC (λb=>b=k.ta∨b=k.tc) W1)=>β11 (x.h.blk d.o.blk aS)
  have aa:=λ(x:qC (λb=>b=k.ta∨b=k.tc) W1)=>x.h.blk aU.o aR
  have ba:=λx=>β0 (aa x);have bb:=λx=>β1 (aa x);have bc:=λx=>β2 (aa x);clear aa
  clear h aS aR;have ae:=κ an;have aB:=κ ap;clear an ap
  go_enter func45,ntmps45
  go_upto_region 1 with fail
  (try rw[J])
  clear J
  go_upto_region 3 with fail
  refine QN (λb=>b=k.ta∨b=k.tc) W1 8 8 [6] ?_
  refine Qs6 ?_
  (refine Ql ?_;intro K H)
  (with_reducible refine af.o.mono ?_)
  rintro e w2 ⟨rfl,aH,ai⟩;have av:Hid (qk (λb=>b=k.ta∨b=k.tc) W1 w2):=κ (((qk.refl _ W1).drewN 1).trans ai);have ac:=κ (OV (d.o.on (qh.drewN W1 1)) aH ai);have aG:=κ (aF.o.trans ((d.o.at.stay (qh.drewN W1 1)).trans ac.o.2));clear aH ai;refine⟨_,rfl,qn av.o,H _ _ ?_⟩;clear H K aX ba bb bc
  iterate 1 (refine qz rfl rfl (qn av.o) ?_;intro K H;go_big_quiet_op;go_big_quiet_on)
  refine qD ?_;by_cases e0:aj=0
  ·subst e0;have G:Hid (s.publish p s0 s1 s2=({s with tab:=ar,strs:=Ma s.cfg p s.strs 3},0)):=κ (by unfold RmS.publish;rw[ώ (by rw[ad.o];decide),ϒ ae.o,aB.o];rfl);go_wp2
   go_loopw [25] (λaq wr=> ∃i:Nat,i<=3/\aq= ι i/\(∃I:RmK,I.R=k.R/\qL w0 wr I {s with tab:=ar,strs:=Ma s.cfg p s.strs i} F)/\qA F w2 wr) (λaq _=>3-(intOf aq).toNat)
   case atStart=>exact⟨0,τ,rfl,⟨k,rfl,ac.o.1⟩,qA.refl _ _⟩
   case round=>
    obtain⟨i,hi,rfl,⟨I,aL,aN⟩,aO⟩:=hrel;have aA:=κ aN;have aC:=κ aO;have Y:=κ aL;clear aN aO aL;by_cases hlt:i<3
    ·have bi:(i:Int)<3:=by omega
     obtain⟨bk,bn,bp,au⟩:=aA.o;have ah:=κ au;have ak:=au.blk;rw[Y.o] at ak;have ax:=κ ak;have aY: ∀y:qu wr,y.w'.cell? ⟨k.R,2,ϋ⟩=ϊ (ι s.cfg.hold):=λy=>qi (qj y.h ax.o) 2 rfl
     have aZ: ∀y:qu wr,y.w'.cell? ⟨k.R,3,ϋ⟩=ϊ (ι s.cfg.wait):=λy=>qi (qj y.h ax.o) 3 rfl
     have bd:=κ (Vy s.cfg.hold s.cfg.wait (wr.drewN 1) az.o.2.1);clear au ak
     go_upto_region 9 with fail
     refine Qn wr 16 16 [10] ?_
     refine Sd ?_
     (refine Ql ?_;intro K H)
     (with_reducible refine bd.o.mono ?_)
     rintro e w5 ⟨rfl,aI,aQ,aP⟩;have ab:Hid (qh wr w5):=κ ((qh.drewN wr 1).trans aQ);have aV:Hid (zC w5 wr.heap.size (δ ϋ 0 0) (F9 s.cfg.hold s.cfg.wait)):=κ aI;have ag:Hid (wr.heap.size<w5.heap.size):=κ aP;clear aI aQ aP;refine⟨_,rfl,qo ab.o,H _ _ ?_⟩;clear H K aY aZ
     iterate 5 (refine qz rfl rfl (qo ab.o) ?_;intro K H;go_big_quiet_op;go_big_quiet_on)
     refine qD ?_;obtain⟨W6,N⟩:=ν (w5.alloc (.cells #[γ wr.heap.size,ύ,ι 0,ύ,ύ,ι 0,ι 0,ύ] 176));have aE:Hid (qh wr W6):=κ (by rw[<-N];exact ab.o.al _);have aw:Hid (W6.heap[w5.heap.size]? =ϊ (.cells (QC wr.heap.size (ub s.cfg)) 176 (0,0))):=κ (by rw[<-N];exact qp w5 _);have aW:Hid (zC W6 wr.heap.size (δ ϋ 0 0) (ub s.cfg).buf):=κ (by rw[<-N];exact aV.o.on Z0);obtain⟨w9,bj,aM,aJ,_⟩:=(ah.o.stm.more aE.o).update Ji underlying91 (p,(i:Int)) w5.heap.size;have ay:=κ (ah.o.strNew (t:=ub s.cfg) aE.o ⟨P8 ag.o,qq aw.o⟩ ⟨ϕ _,ϗ ag.o (by rw[<-N];exact Z0.size)⟩ (λe=>by have:=ag.o;omega) aw.o aW.o (Im az.o.2.1) rfl aM aJ);unfold Qf kO at bj;have ao:=ah.o.blk;rw[Y.o] at ao;have bm:w5.cell? ⟨k.R,13,ϋ⟩=ϊ (.map (ϊ I.MS)):=qi (qj ab.o ao) 13 rfl;clear aM aJ ao
     go_wp2_with ((try rw[N]);fail)
     go_roundw
     case rel=>exact⟨i+1,τ,by go_num,⟨{I with SA:=qB I.SA (p,(i:Int)) w5.heap.size},Y.o,ay.o.1⟩,aC.o.trans ay.o.2⟩
     case measure=>simp[intOf];omega
    ·obtain rfl:i=3:=by omega
     have bi: ¬((3:Nat):Int)<3:=by omega
     go_wp2;go_ret;exact⟨I,Y.o,by rw[G.o];rfl,by rw[G.o];exact aA.o,aG.o.trans aC.o⟩
  ·have bl:(aj != 0)=ό:=by simp[e0]
   have G:Hid (s.publish p s0 s1 s2=(s,aj)):=κ (by unfold RmS.publish;rw[ώ (by rw[ad.o];decide),ae.o,ώ e0]);have be:Hid (ar=s.tab):=κ (by rw[<-aB.o];exact Ev (by rw[ae.o];exact e0));clear e0;go_wp2;go_ret;exact⟨k,rfl,by rw[G.o];rfl,by rw[G.o];have h:=ac.o.1;rw[be.o] at h;exact h,aG.o⟩
end
section
variable {T:Nat->Tg} {w0 w w1 w':World} {k:RmK} {vp vr:Value} {s:RmS} {F:List Nat}
def Ld (h:RmX T w0 w k vp vr s F) (aV: ∀a∈s.pks,gG a.pk) (bz:s.pks.length<=1000000) (hi:i<s.pks.length) {a:AcS} (aF:s.pks[i]=a):
  Calls prog 15 #[γ k.R,ι (i:Int)] w λe w'=> ∃os ac ab ad ke Y,e= .returned (.tuple #[(Γi a.o.1 a.o.2 a.num a.pk os ad ac ke ab Y),ό])/\PkS w' (δ os a.pk.ss.length ad) (δ ac a.pk.ex.length ke) (δ ab a.pk.pl.length Y) a.pk/\qh w w':=by
 obtain⟨g,cap,os,ac,ab,ad,ke,Y,rfl,_,bx,aG,aH⟩:=h.pkRow hi;rw[aF] at aG aH;have an:=κ aH.pk;have af:=κ (aV a (by rw[<-aF];exact Ϣ hi));obtain⟨W2,aq⟩:=ν (w.alloc (.cells #[ι 0,ι 0,ι 0,ύ,υ 0,φ 0,ω 0,ω 0,(),ύ,φ 0,(),()] 65));have ao:Hid (qh w W2):=κ (by rw[<-aq];exact qh.alloc _ _);have aJ:Hid (W2.heap[w.heap.size]? =ϊ (.cells #[ι 0,ι 0,ι 0,ύ,υ 0,φ 0,ω 0,ω 0,(),ύ,φ 0,(),()] 65 (0,0))):=κ (by rw[<-aq];exact qp w _);have ba:Hid (W2.rangeAt g (i* 13) (Γi a.o.1 a.o.2 a.num a.pk os ad ac ke ab Y)):=κ (λj v bA=>by rw[ao.o.cells _ _ bx];exact aG j v bA);have bs:=β14 (qj ao.o h.blk);have bG:(i:Int)<(s.pks.length:Int):=by omega
 clear aG aH aV aF h bz
 go_enter func15,ntmps15
 go_upto_region 1 with fail
 (try rw[aq])
 clear aq
 go_upto_region 4 with (refine wpList_load_mid rfl 65 (.tmp 24) rfl g (i* 13) rfl (Γi a.o.1 a.o.2 a.num a.pk os ad ac ke ab Y) _ ba.o underlying65 rfl ξ ?_)
 obtain⟨ag,ar⟩:=ν (W2.alloc (.cells (Γi a.o.1 a.o.2 a.num a.pk os ad ac ke ab Y) 65));have aR:Hid (qh W2 ag):=κ (by rw[<-ar];exact qh.alloc _ _);have aw:Hid (ag.heap[W2.heap.size]? =ϊ (.cells (Γi a.o.1 a.o.2 a.num a.pk os ad ac ke ab Y) 65 (0,0))):=κ (by rw[<-ar];exact qp W2 _)
 (try rw[ar])
 clear ar bs;have ae:Hid (w.heap.size<W2.heap.size):=κ (qq aJ.o);have aE:=κ (an.o.keep (ao.o.trans aR.o));have aA:Hid (W2.heap.size<ag.heap.size):=κ (qq aw.o);have bt:=β8 aw.o;have aN:=κ (Ch _ a.pk.ss ag aE.o.s af.o.s)
 go_upto_region 5 with (go_at_call 49;(go_call aN.o as e w1 ⟨⟨v0,rfl,I⟩,H⟩;have be:Hid (qh W2 w1):=κ (aR.o.trans H);have bh:=κ (SlI.of_owns I (by have:=af.o.s;omega));have ap:Hid (∀q,v0.ownBlock=ϊ q->W2.heap.size<q):=κ (λq d=>ϗ aA.o (j8 I d));have aB:=κ H;obtain⟨N,J,rfl⟩:=j7 I;have ax:=κ (qj H aw.o);have bD:=β8 ax.o;have bw:=ql ax.o 8;clear I H))
 obtain⟨ah,G⟩: ∃W',w1.setCell ⟨W2.heap.size,8,ϋ⟩ (δ N a.pk.ss.length J)=W':=⟨_,rfl⟩;have aL:Hid (ah.heap[W2.heap.size]? =ϊ (.cells (Γi a.o.1 a.o.2 a.num a.pk N J ac ke ab Y) 65 (0,0))):=κ (by rw[<-G];exact qF (qt ax.o 8 (δ N a.pk.ss.length J)) rfl);have bc:Hid (qh W2 ah):=κ (by rw[<-G];exact be.o.st (ϕ _) _);have al:Hid (qk (λb=>b=W2.heap.size) w1 ah):=κ (by rw[<-G];exact qk.set (S:=λb=>b=W2.heap.size) (qk.refl _ _) (p:=⟨W2.heap.size,8,ϋ⟩) rfl _);have bk:=κ (bh.o.off2 (λ_ q d e=>by have:=ap.o q d;omega) al.o);have aX:=κ ((aE.o.e.keep aB.o).off2 (λak b aj e=>by have:=an.o.e.old ak aj;have:=ae.o;omega) al.o);have aY:=κ ((aE.o.l.keep aB.o).off2 (λak b aj e=>by have:=an.o.l.old ak aj;have:=ae.o;omega) al.o);have aQ:Hid (ag.heap.size<=ah.heap.size):=κ (ϙ (ϕ _) (ϙ aB.o.size al.o.size))
 (try rw[G])
 clear G bt bD bw aN;have bq:=β11 aL.o;have aO:=κ (Jk _ a.pk.ex ah aX.o af.o.e)
 go_upto_region 6 with (go_at_call 50;(go_call aO.o as e w2 ⟨⟨bE,rfl,I⟩,H⟩;have bf:Hid (qh W2 w2):=κ (bc.o.trans H);have bi:=κ (SlI.of_owns I (by have:=af.o.e;omega));have aD:Hid (∀q,bE.ownBlock=ϊ q->W2.heap.size<q):=κ (λq d=>ϗ (ϗ aA.o aQ.o) (j8 I d));have aC:=κ H;obtain⟨o2,O,rfl⟩:=j7 I;have ay:=κ (qj H aL.o);have bB:=β11 ay.o;have bu:=ql ay.o 11;clear I H))
 obtain⟨ai,G⟩: ∃W',w2.setCell ⟨W2.heap.size,11,ϋ⟩ (δ o2 a.pk.ex.length O)=W':=⟨_,rfl⟩;have aM:Hid (ai.heap[W2.heap.size]? =ϊ (.cells (Γi a.o.1 a.o.2 a.num a.pk N J o2 O ab Y) 65 (0,0))):=κ (by rw[<-G];exact qF (qt ay.o 11 (δ o2 a.pk.ex.length O)) rfl);have bd:Hid (qh W2 ai):=κ (by rw[<-G];exact bf.o.st (ϕ _) _);have am:Hid (qk (λb=>b=W2.heap.size) w2 ai):=κ (by rw[<-G];exact qk.set (S:=λb=>b=W2.heap.size) (qk.refl _ _) (p:=⟨W2.heap.size,11,ϋ⟩) rfl _);have bn:=κ (bi.o.off2 (λ_ q d e=>by have:=aD.o q d;omega) am.o);have bl:=κ ((bk.o.keep aC.o).off2 (λ_ q d e=>by have:=ap.o q d;omega) am.o);have aZ:=κ ((aY.o.keep aC.o).off2 (λak b aj e=>by have:=an.o.l.old ak aj;have:=ae.o;omega) am.o);have bb:Hid (ag.heap.size<=ai.heap.size):=κ (ϙ aQ.o (ϙ aC.o.size am.o.size))
 (try rw[G])
 clear G bq bB bu aO;have br:=β12 aM.o;have aP:=κ (Jk _ a.pk.pl ai aZ.o af.o.l)
 go_upto_region 7 with (go_at_call 50;(go_call aP.o as e aI ⟨⟨bF,rfl,I⟩,H⟩;have bg:Hid (qh W2 aI):=κ (bd.o.trans H);have bj:=κ (SlI.of_owns I (by have:=af.o.l;omega));have aU:Hid (∀q,bF.ownBlock=ϊ q->W2.heap.size<q):=κ (λq d=>ϗ (ϗ aA.o bb.o) (j8 I d));have aT:=κ H;obtain⟨aa,U,rfl⟩:=j7 I;have az:=κ (qj H aM.o);have bC:=β12 az.o;have bv:=ql az.o 12;clear I H))
 obtain⟨W6,G⟩: ∃W',aI.setCell ⟨W2.heap.size,12,ϋ⟩ (δ aa a.pk.pl.length U)=W':=⟨_,rfl⟩;have aW:Hid (W6.heap[W2.heap.size]? =ϊ (.cells (Γi a.o.1 a.o.2 a.num a.pk N J o2 O aa U) 65 (0,0))):=κ (by rw[<-G];exact qF (qt az.o 12 (δ aa a.pk.pl.length U)) rfl);have aS:Hid (qh W2 W6):=κ (by rw[<-G];exact bg.o.st (ϕ _) _);have au:Hid (qk (λb=>b=W2.heap.size) aI W6):=κ (by rw[<-G];exact qk.set (S:=λb=>b=W2.heap.size) (qk.refl _ _) (p:=⟨W2.heap.size,12,ϋ⟩) rfl _);have bp:=κ (bj.o.off2 (λ_ q d e=>by have:=aU.o q d;omega) au.o);have bm:=κ ((bl.o.keep aT.o).off2 (λ_ q d e=>by have:=ap.o q d;omega) au.o);have bo:=κ ((bn.o.keep aT.o).off2 (λ_ q d e=>by have:=aD.o q d;omega) au.o)
 (try rw[G])
 clear G br bC bv aP;have aK:Hid (W6.heap[w.heap.size]? =ϊ (.cells #[ι 0,ι 0,ι 0,ύ,υ 0,φ 0,ω 0,ω 0,(),ύ,φ 0,(),()] 65 (0,0))):=κ (qj aS.o aJ.o)
 go_upto_region 7 with fail
 go_wp2_with (first | (refine wpList_load_row rfl 65 (.tmp 6) rfl W2.heap.size rfl _ (Γi a.o.1 a.o.2 a.num a.pk N J o2 O aa U) _ _ aW.o underlying65 rfl ξ ?_) | (refine zT rfl 65 (.tmp 4) (.tmp 44) rfl w.heap.size 65 _ (Γi a.o.1 a.o.2 a.num a.pk N J o2 O aa U) aK.o rfl rfl ξ rfl Z5 ?_))
 (refine bodyPost_ret (v:= .tuple #[(Γi a.o.1 a.o.2 a.num a.pk N J o2 O aa U),ό]) (yN results15 _ _ (w.heap.size) 65 (Γi a.o.1 a.o.2 a.num a.pk N J o2 O aa U) _ _ rfl rfl (jG aK.o (Γi a.o.1 a.o.2 a.num a.pk N J o2 O aa U)) underlying65 rfl ξ) rfl ?_)
 have av:=qk.setRow W6 w.heap.size (Γi a.o.1 a.o.2 a.num a.pk N J o2 O aa U);refine⟨_,_,_,_,_,_,rfl,⟨bm.o.off2 (λ_ q d e=>by have:=ap.o q d;have:=ae.o;omega) av,bo.o.off2 (λ_ q d e=>by have:=aD.o q d;have:=ae.o;omega) av,bp.o.off2 (λ_ q d e=>by have:=aU.o q d;have:=ae.o;omega) av⟩,(ao.o.trans aS.o).row (ϕ _) _⟩
end
section
variable {w0 w w':World} {k:RmK} {s:RmS} {F:List Nat}
def RDo (ao:qL w0 w k s F) (al:qT n s) (ap:n<=1000) (a:A22) (am:Option Addr) (ak:Nat) (aq:SlI .u8 w (δ am a.b.length ak) a.b) (U:Byt a.b) (ab:a.b.length<=400) (aa:U16 a.seq) (Y:U32 a.own):
  Calls prog 12 #[γ k.R,θ #[ι a.act,ι a.sub,ι a.pub,ι a.layer,δ am a.b.length ak,ι a.w.1,ι a.w.2,a.acc,ω a.own,ω a.stamp,φ a.seq,ω a.s0,ω a.s1,ω a.s2]] w λe w'=>
   ∃k',k'.R=k.R/\e= .returned (.tuple #[ι (doR s a).2.1,μ (doR s a).2.2])/\qL w0 w' k' (doR s a).1 F/\qA F w w':=by
 obtain⟨act,sub,pub,layer,b,⟨w1,w2⟩,acc,own,stamp,seq,s0,s1,s2⟩:=a;simp only at aq U ab aa Y ⊢;obtain⟨W1,G⟩:=ν (w.alloc (.cells #[ι act,ι sub,ι pub,ι layer,δ am b.length ak,ι w1,ι w2,acc,ω own,ω stamp,φ seq,ω s0,ω s1,ω s2] 42));have an:Hid (qh w W1):=κ (by rw[<-G];exact qh.alloc _ _);have O:Hid (W1.heap[w.heap.size]? =ϊ (.cells #[ι act,ι sub,ι pub,ι layer,δ am b.length ak,ι w1,ι w2,acc,ω own,ω stamp,φ seq,ω s0,ω s1,ω s2] 42 (0,0))):=κ (by rw[<-G];exact qp w _);have ac:=κ (ao.on an.o);have ad:=κ (ao.stay an.o);have ah:=κ al;have ar:=κ (aq.keep an.o);have af:=al.num.lost;have ae:=al.num.book;have av:=β0 O.o;have c1:=β1 O.o;have c2:=β2 O.o;have c3:=β3 O.o;have c4:=β4 O.o;have c5:=β5 O.o;have aA:=β6 O.o;have aB:=β7 O.o;have aC:=β8 O.o;have aD:=β9 O.o;have aw:=β10 O.o;have ax:=β11 O.o;have ay:=β12 O.o;have az:=β13 O.o;have au:act=0∨act=1∨act=2∨act=3∨act=4∨act=5∨act=6∨act=7∨act=8∨ ¬(0<=act/\act<=8):=by omega
 clear ao al aq;rcases au with rfl | rfl | rfl | rfl | rfl | rfl | rfl | rfl | rfl | hno
 ·have J:=κ (PA ac.o b _ ar.o U τ τ);have H:Hid (doR s ⟨0,sub,pub,layer,b,(w1,w2),acc,own,stamp,seq,s0,s1,s2⟩=((s.arrive b).1,(s.arrive b).2,ύ)):=κ rfl;rw[H.o];clear af ae U ab aa Y
  go_enter func12,ntmps12
  go_upto_region 1 with fail
  (try rw[G])
  clear G
  go_wp2_with (go_at_call 33;(go_call J.o as e ag ⟨rfl,d,t2⟩;have I:=κ d;have N:=κ t2;clear d t2))
  go_ret2
  exact⟨k,rfl,rfl,I.o,ad.o.trans N.o⟩
 ·have J:=κ (LW ac.o ah.o τ w1 w2 acc);have H:Hid (doR s ⟨1,sub,pub,layer,b,(w1,w2),acc,own,stamp,seq,s0,s1,s2⟩=((s.pick (w1,w2) acc).1,0,(s.pick (w1,w2) acc).2)):=κ rfl;rw[H.o];clear af ae U ab aa Y
  go_enter func12,ntmps12
  go_upto_region 1 with fail
  (try rw[G])
  clear G
  go_wp2_with (go_at_call 31;(go_call J.o as e ag ⟨rfl,d,t2⟩;have I:=κ d;have N:=κ t2;clear d t2))
  go_ret2
  exact⟨k,rfl,rfl,I.o,ad.o.trans N.o⟩
 ·have J:=κ (LV ac.o ah.o ap);have H:Hid (doR s ⟨2,sub,pub,layer,b,(w1,w2),acc,own,stamp,seq,s0,s1,s2⟩=(s.tick.1,s.tick.2,ύ)):=κ rfl;rw[H.o];clear af ae U ab aa Y
  go_enter func12,ntmps12
  go_upto_region 1 with fail
  (try rw[G])
  clear G
  go_wp2_with (go_at_call 34;(go_call J.o as e ag ⟨rfl,d,t2⟩;have I:=κ d;have N:=κ t2;clear d t2))
  go_ret2
  exact⟨k,rfl,rfl,I.o,ad.o.trans N.o⟩
 ·have J:=κ (KY ac.o ah.o.num.cfg pub s0 s1 s2);have H:Hid (doR s ⟨3,sub,pub,layer,b,(w1,w2),acc,own,stamp,seq,s0,s1,s2⟩=((s.publish pub s0 s1 s2).1,(s.publish pub s0 s1 s2).2,ύ)):=κ rfl;rw[H.o];clear af ae U ab aa Y
  go_enter func12,ntmps12
  go_upto_region 1 with fail
  (try rw[G])
  clear G
  go_wp2_with (go_at_call 45;(go_call J.o as e ag ⟨aj,ai,rfl,d,t2⟩;have I:=κ d;have N:=κ t2;clear d t2))
  go_ret2
  exact⟨aj,ai,rfl,I.o,ad.o.trans N.o⟩
 ·have J:=κ (LY ac.o ah.o.num.cfg sub own seq stamp aa Y);have H:Hid (doR s ⟨4,sub,pub,layer,b,(w1,w2),acc,own,stamp,seq,s0,s1,s2⟩=((s.join sub own seq stamp).1,(s.join sub own seq stamp).2,ύ)):=κ rfl;rw[H.o];clear af ae U ab aa Y
  go_enter func12,ntmps12
  go_upto_region 1 with fail
  (try rw[G])
  clear G
  go_wp2_with (go_at_call 35;(go_call J.o as e ag ⟨aj,ai,rfl,d,t2⟩;have I:=κ d;have N:=κ t2;clear d t2))
  go_ret2
  exact⟨aj,ai,rfl,I.o,ad.o.trans N.o⟩
 ·have J:=κ (ZE ac.o (ah.o.subs ap) sub pub layer);have H:Hid (doR s ⟨5,sub,pub,layer,b,(w1,w2),acc,own,stamp,seq,s0,s1,s2⟩=((s.subscribe sub pub layer).1,(s.subscribe sub pub layer).2,ύ)):=κ rfl;rw[H.o];clear af ae U ab aa Y
  go_enter func12,ntmps12
  go_upto_region 1 with fail
  (try rw[G])
  clear G
  go_wp2_with (go_at_call 46;(go_call J.o as e ag ⟨rfl,d,t2⟩;have I:=κ d;have N:=κ t2;clear d t2))
  go_ret2
  exact⟨k,rfl,rfl,I.o,ad.o.trans N.o⟩
 ·have J:=κ (LU ac.o (ah.o.subs ap) sub layer);have H:Hid (doR s ⟨6,sub,pub,layer,b,(w1,w2),acc,own,stamp,seq,s0,s1,s2⟩=((s.want sub layer).1,(s.want sub layer).2,ύ)):=κ rfl;rw[H.o];clear af ae U ab aa Y
  go_enter func12,ntmps12
  go_upto_region 1 with fail
  (try rw[G])
  clear G
  go_wp2_with (go_at_call 36;(go_call J.o as e ag ⟨rfl,d,t2⟩;have I:=κ d;have N:=κ t2;clear d t2))
  go_ret2
  exact⟨k,rfl,rfl,I.o,ad.o.trans N.o⟩
 ·have J:=κ (Nw ac.o τ sub);have H:Hid (doR s ⟨7,sub,pub,layer,b,(w1,w2),acc,own,stamp,seq,s0,s1,s2⟩=((s.leave sub).1,(s.leave sub).2,ύ)):=κ rfl;rw[H.o];clear af ae U ab aa Y
  go_enter func12,ntmps12
  go_upto_region 1 with fail
  (try rw[G])
  clear G
  go_wp2_with (go_at_call 47;(go_call J.o as e ag ⟨aj,ai,rfl,d,t2⟩;have I:=κ d;have N:=κ t2;clear d t2))
  go_ret2
  exact⟨aj,ai,rfl,I.o,ad.o.trans N.o⟩
 ·have J:=κ (OX ac.o);have H:Hid (doR s ⟨8,sub,pub,layer,b,(w1,w2),acc,own,stamp,seq,s0,s1,s2⟩=(s.shut.1,s.shut.2,ύ)):=κ rfl;rw[H.o];clear af ae U ab aa Y
  go_enter func12,ntmps12
  go_upto_region 1 with fail
  (try rw[G])
  clear G
  go_wp2_with (go_at_call 28;(go_call J.o as e ag ⟨rfl,d,t2⟩;have I:=κ d;have N:=κ t2;clear d t2))
  go_ret2
  exact⟨k,rfl,rfl,I.o,ad.o.trans N.o⟩
 ·have H:Hid (doR s ⟨act,sub,pub,layer,b,(w1,w2),acc,own,stamp,seq,s0,s1,s2⟩=(s,0,ύ)):=κ (by
   unfold doR;simp only
   rw[ώ τ,ώ τ,ώ τ,ώ τ,ώ τ,ώ τ,ώ τ,ώ τ,ώ τ])
  rw[H.o];clear af ae U ab aa Y;have aE:(act==0)=ύ:=by simp;omega
  have aF:(act==1)=ύ:=by simp;omega
  have aG:(act==2)=ύ:=by simp;omega
  have aH:(act==3)=ύ:=by simp;omega
  have aI:(act==4)=ύ:=by simp;omega
  have aJ:(act==5)=ύ:=by simp;omega
  have aK:(act==6)=ύ:=by simp;omega
  have aL:(act==7)=ύ:=by simp;omega
  have aM:(act==8)=ύ:=by simp;omega
  clear hno
  go_enter func12,ntmps12
  go_upto_region 1 with fail
  (try rw[G])
  clear G;go_wp2
  go_ret2
  exact⟨k,rfl,rfl,ac.o,ad.o⟩
end
def Y8:qO A22:=λw cs a=> ∃vb,cs=[.int .i64 a.act,.int .i64 a.sub,.int .i64 a.pub,.int .i64 a.layer,vb,.int .i64 a.w.1,.int .i64 a.w.2,.bool a.acc,.int .u32 a.own,.int .u32 a.stamp,.int .u16 a.seq,.int .u32 a.s0,.int .u32 a.s1,.int .u32 a.s2]/\SlI .u8 w vb a.b/\(Byt a.b/\U32 a.own/\U16 a.seq/\ ∀v∈[a.s0,a.s1,a.s2],0<=v/\v<=4294967295)
def KD:gj Y8:=λ_ _ _ _ m ⟨vb,d,G,H⟩=>⟨vb,d,G.keep m,H⟩
def NQ:qO (Int×Int×Unit):=zz 1 (vH .i64) (zz 1 (vH .i64) PK)
def Kn:jI prog 37 NQ:=
 jI.struct underlying37 ξ (jR.cons rfl ξ (jI.int underlying3) (jR.cons rfl ξ (jI.int underlying3) jR.nil))
def NR:qO (Int×Int×Int×Int×List Int×(Int×Int×Unit)×Bool×Int×Int×Int×List Int×Unit):=
 zz 1 (vH .i64) (zz 1 (vH .i64) (zz 1 (vH .i64) (zz 1 (vH .i64) (zz 1 (RSl 1 (vH .u8)) (zz 2 NQ (zz 1 BE (zz 1 (vH .u32) (zz 1 (vH .u32) (zz 1 (vH .u16) (zz 3 (NV 3 1 (vH .u32)) PK))))))))))
def FL {y:Int×Int×Int×Int×List Int×(Int×Int×Unit)×Bool×Int×Int×Int×List Int×Unit} (ak:cs.length=14) (h:NR w cs y): ∃z,Y8 w cs z:=by
 match cs,ak with
 | [k0,k1,k2,k3,k4,k5,k6,k7,k8,k9,k10,k11,k12,k13],_=>
  obtain⟨⟨O,_⟩,⟨U,_⟩,⟨aa,_⟩,⟨ab,_⟩,⟨ap,ac,ao⟩,⟨⟨ad,_⟩,⟨ae,_⟩,_⟩,af,⟨ag,aj⟩,⟨ah,_⟩,⟨Y,ai⟩,⟨_,I,J⟩,_⟩:=h;simp[BE] at O U aa ab ac ad ae af ag ah Y;have d:=J 0 (by rw[I];omega);have G:=J 1 (by rw[I];omega);have H:=J 2 (by rw[I];omega);obtain⟨d,al⟩:=d;obtain⟨G,am⟩:=G;obtain⟨H,p2⟩:=H;simp at d G H;obtain⟨an,aq⟩:=ao.ints;refine⟨⟨_,_,_,_,_,(_,_),_,_,_,_,_,_,_⟩,ap,by rw[O,U,aa,ab,ac,ad,ae,af,ag,ah,Y,d,G,H],an,Byt.of_wf aq,bounds_u32 aj,bounds_u16 ai,λv N=> ?_⟩;simp at N;rcases N with rfl | rfl | rfl
  ·exact bounds_u32 al
  ·exact bounds_u32 am
  ·exact bounds_u32 p2
def EL:jI prog 42 Y8:=λG H w base U J I cs x d=>by
 obtain⟨y,O⟩:=(jI.struct (R:=NR) underlying42 ξ (jR.cons rfl ξ (jI.int underlying3) (jR.cons rfl ξ (jI.int underlying3) (jR.cons rfl ξ (jI.int underlying3) (jR.cons rfl ξ (jI.int underlying3) (jR.cons rfl ξ (jI.sl underlying35 ξ ζ (jI.int underlying5)) (jR.cons rfl ξ Kn (jR.cons rfl ξ (jI.bool underlying4) (jR.cons rfl ξ (jI.int underlying38) (jR.cons rfl ξ (jI.int underlying38) (jR.cons rfl ξ (jI.int underlying39) (jR.cons rfl ξ (jI.arr underlying40 ξ ξ (jI.int underlying38)) jR.nil)))))))))))) G H w base U J I cs x d;refine FL ?_ O;obtain⟨_,_,_,_,N,_⟩:=DataW.trod_struct underlying42 d;rw[N]
 kernel_rfl
def Me:qO CfR:=λ_ cs c=>cs=[.int .i64 c.room,.int .i64 c.hold,.int .i64 c.wait,.int .i64 c.space,.int .i64 c.retry,.int .i64 c.most]
def LN:qO (Int×Int×Unit):=zz 1 (vH .i64) (zz 1 (vH .i64) PK)
def DG:jI prog 23 LN:=
 jI.struct underlying23 ξ (jR.cons rfl ξ (jI.int underlying2) (jR.cons rfl ξ (jI.int underlying2) jR.nil))
def EK:jI prog 25 Me:=λY aa w base ae ac ab cs x G=>by
 obtain⟨y,ad⟩:=(jI.struct (R:=zz 1 (vH .i64) (zz 1 (vH .i64) (zz 1 (vH .i64) (zz 2 LN (zz 1 (vH .i64) PK))))) underlying25 ξ (jR.cons rfl ξ (jI.int underlying3) (jR.cons rfl ξ (jI.int underlying3) (jR.cons rfl ξ (jI.int underlying2) (jR.cons rfl ξ DG (jR.cons rfl ξ (jI.int underlying3) jR.nil)))))) Y aa w base ae ac ab cs x G;have d:cs.length=6:=by
  obtain⟨_,_,_,_,d,_⟩:=DataW.trod_struct underlying25 G;rw[d]
  kernel_rfl
 match cs,d with
 | [k0,k1,k2,k3,k4,k5],_=>
  obtain⟨⟨H,_⟩,⟨I,_⟩,⟨J,_⟩,⟨⟨N,_⟩,⟨O,_⟩,_⟩,⟨U,_⟩,_⟩:=ad;simp at H I J N O U;exact⟨⟨_,_,_,_,_,_⟩,by rw[H,I,J,N,O,U];rfl⟩
def xP:A22:=⟨0,0,0,0,[],(0,0),ύ,0,0,0,0,0,0⟩
def UY {l:List A22} (h:SlP 14 Y8 w v l): ∃G cap,v= δ G l.length cap/\(l.length:Int)<=9223372036854775807/\ ∀i,i<l.length-> ∃b I H d,G=ϊ ⟨b,I,ϋ⟩/\b<w.heap.size/\
  (∀w',qh w w'->w'.rangeAt b (I+i* 14) [ι (l.getD i xP).act,ι (l.getD i xP).sub,ι (l.getD i xP).pub,ι (l.getD i xP).layer,δ H (l.getD i xP).b.length d,ι (l.getD i xP).w.1,ι (l.getD i xP).w.2,μ (l.getD i xP).acc,ω (l.getD i xP).own,ω (l.getD i xP).stamp,φ (l.getD i xP).seq,ω (l.getD i xP).s0,ω (l.getD i xP).s1,ω (l.getD i xP).s2])/\
  SlI .u8 w (δ H (l.getD i xP).b.length d) (l.getD i xP).b/\(Byt (l.getD i xP).b/\U32 (l.getD i xP).own/\U16 (l.getD i xP).seq/\ ∀v∈[(l.getD i xP).s0,(l.getD i xP).s1,(l.getD i xP).s2],0<=v/\v<=4294967295):=by
 obtain⟨G,cap,Y,aa,ab,af⟩:=id h;refine⟨G,cap,Y,aa,λi hi=> ?_⟩;obtain⟨b,I,cs,e,J,ag,ac,vb,rfl,O,ae⟩:=ab i hi;have U:l.getD i xP=l[i]:=by simp[hi]
 rw[U];obtain⟨H,d,rfl,_⟩:=id O;refine⟨b,I,H,d,e,J,λw' m j v N=> ?_,O,ae⟩;have ad:j<14:=(ϟ.1 N).1;rw[m.cells b _ J,ac j ad];exact N
def kh (l:List A22):Bool:=decide (120<l.length)||l.any λx=>decide (400<x.b.length)
def Fe {l:List A22} (h:kh l=ύ):l.length<=120/\ ∀i,i<l.length->(l.getD i xP).b.length<=400:=by
 unfold kh at h;rw[X0] at h;refine⟨by simpa using h.1,λi hi=> ?_⟩;have:=M0.1 h.2 l[i] (Ϣ hi);have d:l.getD i xP=l[i]:=by simp[hi]
 rw[d]
 simpa using this
def Pt (v:Value) (l:List A22) (w:World) (af:SlP 14 Y8 w v l):Calls prog 10 #[v] w λe w'=>e= .returned (μ (kh l))/\qh w w':=by
 obtain⟨au,cap,rfl,ar,I⟩:=UY af;clear af;by_cases jp:(l.length:Int)<=120
 ·go_enter func10,ntmps10
  go_wp2
  go_loopw [10] (λi wr=> ∃j:Nat,j<=l.length/\i= ι j/\(∀i,i<j-> ¬400<(l.getD i xP).b.length)/\qh w wr) (λi _=>l.length-(intOf i).toNat)
  case atStart=>exact⟨0,τ,rfl,λi hi=>by omega,qh.refl _⟩
  case round=>
   obtain⟨j,aq,rfl,H,d⟩:=hrel;by_cases hlt:j<l.length
   ·obtain⟨b,ae,ad,ac,rfl,ap,aa,_⟩:=I j hlt;have O:=κ (aa wr d);have ao:(j:Int)<(l.length:Int):=by omega
    have ag:=κ H;have G:=κ d
    have ak:Hid (400<(l.getD j xP).b.length->kh l=ό):=κ (λh=>by
     unfold kh;rw[T5]
     exact ϓ (R8.2 ⟨l.getD j xP,by simp[hlt],by simpa using h⟩))
    generalize J:l.getD j xP=x at *;have aj:=κ J;clear H aa d J I jp;by_cases an:(400:Int)<(x.b.length:Int)
    ·have N:=κ (ak.o τ)
     go_wp2_with (refine wpList_load_mid rfl 42 (.tmp 12) rfl b (ae+j* 14) rfl [ι x.act,ι x.sub,ι x.pub,ι x.layer,δ ad x.b.length ac,ι x.w.1,ι x.w.2,x.acc,ω x.own,ω x.stamp,φ x.seq,ω x.s0,ω x.s1,ω x.s2] _ O.o underlying42 rfl ξ ?_)
     go_ret;exact⟨by rw[N.o];rfl,G.o.al _⟩
    ·have U: ¬400<x.b.length:=by omega
     have ah:Hid (∀i,i<j+1-> ¬400<(l.getD i xP).b.length):=κ (λi hi=>by
      by_cases e:i<j
      ·exact ag.o i e
      ·obtain rfl:i=j:=by omega
       rw[aj.o];exact U)
     clear U
     go_wp2_with (refine wpList_load_mid rfl 42 (.tmp 12) rfl b (ae+j* 14) rfl [ι x.act,ι x.sub,ι x.pub,ι x.layer,δ ad x.b.length ac,ι x.w.1,ι x.w.2,x.acc,ω x.own,ω x.stamp,φ x.seq,ω x.s0,ω x.s1,ω x.s2] _ O.o underlying42 rfl ξ ?_)
     go_roundw
     case rel=>exact⟨j+1,τ,by go_num,ah.o,G.o.al _⟩
     case measure=>simp[intOf];omega
   ·obtain rfl:j=l.length:=by omega
    have ao: ¬(l.length:Int)<(l.length:Int):=by omega
    have Y:kh l=ύ:=by
     unfold kh;rw[X0];refine⟨by simp;omega,M0.2 λx J=> ?_⟩;obtain⟨i,hi,rfl⟩:=ε.1 J;have:=H i hi;have am:l.getD i xP=l[i]:=by simp[hi]
     rw[am] at this
     simpa using this
    have ai:=κ Y;have G:=κ d;clear Y H I d;go_wp2;go_ret;exact⟨by rw[ai.o];rfl,G.o⟩
 ·have ab:kh l=ό:=by
   unfold kh;rw[T5];exact ϐ (by simp;omega)
  have N:=κ ab;have an:(120:Int)<(l.length:Int):=by omega
  clear I ab jp
  go_enter func10,ntmps10
  go_wp2;go_ret;exact⟨by rw[N.o];rfl,qh.refl _⟩
section
variable {P:Program} {C:World->Prop} {K:Act->World->Prop} {a:Act} {w:World} {d:Option Tmp} {t:TypeId} {ty:TypeId} {ps:String} {af:Array Edge}
def Zh (h:C (w.alloc (.map #[] 0))/\K (a.put d (.map (ϊ w.heap.size))) (w.alloc (.map #[] 0))):jt P C {dst:=d,op:= .makeMap t ϋ,type:=ty,pos:=ps,after:=af,guard:=ϋ} a w K:=by
 unfold jt execOp;simp only[O6,Sem.run_bind,run_makeMap,Result.andThen_ok,Sem.run_pure];exact h
end
section
variable {C:World->Prop} {K:Act->World->Prop} {a:Act} {w:World} {d:Option Tmp} {ty:TypeId} {ps:String} {af:Array Edge}
def DQ (h:Calls prog 43 #[] w λe w''=> ∃v,e= .returned v/\C w''/\K (a.put d v) w''):jt prog C {dst:=d,op:= .call {callee:= .value (.func 43),args:= #[],argTypes:= #[]},type:=ty,pos:=ps,after:=af,guard:=ϋ} a w K:=by
 unfold jt;go_simp;exact h
def WK (h:Calls prog 44 #[] w λe w''=> ∃v,e= .returned v/\C w''/\K (a.put d v) w''):jt prog C {dst:=d,op:= .call {callee:= .value (.func 44),args:= #[],argTypes:= #[]},type:=ty,pos:=ps,after:=af,guard:=ϋ} a w K:=by
 unfold jt;go_simp;exact h
end
def wL (a:Act) (i:Nat) (v u:Value):(a.put (ϊ i) v).put (ϊ i) u=a.put (ϊ i) u:=by
 simp[Act.put]
def yn (a:Act) {j:Nat} (v u:Value) (h:i≠j):(a.put (ϊ i) v).put (ϊ j) u=(a.put (ϊ j) u).put (ϊ i) v:=
 Act.put_comm a v u (λG d e=>h (by injection d with d;injection e with e;omega))
def kP (a:Act) (i:Nat) (h:i<a.tmps.size):a.put (ϊ i) (a.tmps.getD i undef)=a:=by
 obtain⟨t,d⟩:=a;have e:t.setIfInBounds i (t.getD i undef)=t:=by
  apply Array.ext
  ·simp
  ·intro j H G;rw[Array.getElem_setIfInBounds];split
   ·rename_i q;subst q;simp[G]
   ·rfl
 show Act.mk (t.setIfInBounds i (t.getD i undef)) d=⟨t,d⟩;rw[e]
structure Xs where
 x42:Value
 x43:Value
 x45:Value
 x47:Value
 x48:Value
 x49:Value
def pA (A:Act) (x:Xs):Act:=(((((A.put (ϊ 42) x.x42).put (ϊ 43) x.x43).put (ϊ 45) x.x45).put (ϊ 47) x.x47).put (ϊ 48) x.x48).put (ϊ 49) x.x49
def Oq (A:Act) (x:Xs) (v:Value):(pA A x).put (ϊ 42) v=pA A {x with x42:=v}:=by
 unfold pA;rw[yn (i:=49) (j:=42) _ x.x49 v ζ,yn (i:=48) (j:=42) _ x.x48 v ζ,yn (i:=47) (j:=42) _ x.x47 v ζ,yn (i:=45) (j:=42) _ x.x45 v ζ,yn (i:=43) (j:=42) _ x.x43 v ζ,wL]
def Oo (A:Act) (x:Xs) (v:Value):(pA A x).put (ϊ 43) v=pA A {x with x43:=v}:=by
 unfold pA;rw[yn (i:=49) (j:=43) _ x.x49 v ζ,yn (i:=48) (j:=43) _ x.x48 v ζ,yn (i:=47) (j:=43) _ x.x47 v ζ,yn (i:=45) (j:=43) _ x.x45 v ζ,wL]
def On (A:Act) (x:Xs) (v:Value):(pA A x).put (ϊ 45) v=pA A {x with x45:=v}:=by
 unfold pA;rw[yn (i:=49) (j:=45) _ x.x49 v ζ,yn (i:=48) (j:=45) _ x.x48 v ζ,yn (i:=47) (j:=45) _ x.x47 v ζ,wL]
def Om (A:Act) (x:Xs) (v:Value):(pA A x).put (ϊ 47) v=pA A {x with x47:=v}:=by
 unfold pA;rw[yn (i:=49) (j:=47) _ x.x49 v ζ,yn (i:=48) (j:=47) _ x.x48 v ζ,wL]
def Ol (A:Act) (x:Xs) (v:Value):(pA A x).put (ϊ 48) v=pA A {x with x48:=v}:=by
 unfold pA;rw[yn (i:=49) (j:=48) _ x.x49 v ζ,wL]
def Ok (A:Act) (x:Xs) (v:Value):(pA A x).put (ϊ 49) v=pA A {x with x49:=v}:=by
 unfold pA;rw[wL]
def EB (A:Act) (x:Xs) (h:50<=A.tmps.size):(pA A x).eval (.tmp 42)=x.x42:=by
 unfold pA;simp[Act.put,Act.eval,P1,(by omega:42<A.tmps.size)]
structure Y9 (wB:World) (d0 d3 d5 d6 d7:Bool) (x:Xs) (w:World) (T:Nat->Tg):Prop where
 more:qh wB w
 fresh: ∀b,T b≠ .no->wB.heap.size<=b/\b<w.heap.size
 bk:d0=ό-> ∃B b,x.x42= .pointer (ϊ ⟨B,0,ϋ⟩)/\x.x43= .agg #[.pointer (ϊ ⟨B,0,ϋ⟩)]/\T B= .book/\T b= .book/\jE w B b []
 rt:d3=ό-> ∃M,x.x45= .map (ϊ M)/\T M= .ret/\jm w M kO Value.bool []
 tb:d5=ό-> ∃t a b c,x.x47= .pointer (ϊ ⟨t,0,ϋ⟩)/\T t= .table/\T a= .table/\T b= .table/\T c= .table/\ju w t a b c ⟨[],[],[]⟩
 ls:d6=ό-> ∃M,x.x48= .map (ϊ M)/\T M= .lns/\jm w M (Value.int .i64) Qf []
 ss:d7=ό-> ∃M,x.x49= .map (ϊ M)/\T M= .sts/\jm w M kO Qf []
section
variable {wB w w':World} {d0 d3 d5 d6 d7:Bool} {x:Xs} {T:Nat->Tg}
def Y9.no (h:Y9 wB d0 d3 d5 d6 d7 x w T): ∀b,w.heap.size<=b->T b= .no:=λb d=>by
 cases e:T b<;>first | rfl | (exfalso;have:=(h.fresh b (by rw[e];simp)).2;omega)
def Y9.grow (h:Y9 wB d0 d3 d5 d6 d7 x w T) (m:qh w w') (t:Tg):Y9 wB d0 d3 d5 d6 d7 x w' (xk T t w w'):=by
 have O:=h.no;have k: ∀{b:Nat} {u:Tg},u≠ .no->T b=u->xk T t w w' b=u:=λU I=>(jj O U _).2 (ϐ I)
 refine⟨h.more.trans m,λb I=> ?_,λe=> ?_,λe=> ?_,λe=> ?_,λe=> ?_,λe=> ?_⟩
 ·unfold xk at I;split at I
  ·rename_i q;exact⟨ϙ h.more.size q.1,q.2⟩
  ·have:=h.fresh b I;exact⟨this.1,ϗ this.2 m.size⟩
 ·obtain⟨B,b,d,G,H,J,N⟩:=h.bk e;exact⟨B,b,d,G,k η H,k η J,N.more m⟩
 ·obtain⟨M,d,G,H⟩:=h.rt e;exact⟨M,d,k η G,H.more m⟩
 ·obtain⟨t,a,b,c,d,G,H,J,N,Y⟩:=h.tb e;exact⟨t,a,b,c,d,k η G,k η H,k η J,k η N,Y.more m⟩
 ·obtain⟨M,d,G,H⟩:=h.ls e;exact⟨M,d,k η G,H.more m⟩
 ·obtain⟨M,d,G,H⟩:=h.ss e;exact⟨M,d,k η G,H.more m⟩
def yC (H: ∀b,w.heap.size<=b->T b= .no) {t:Tg} (I:t≠ .no) {b:Nat} (d:w.heap.size<=b) (G:b<w'.heap.size):xk T t w w' b=t:=(jj H I b).2 (ϓ ⟨rfl,d,G⟩)
end
def vT {o:Oper} {y:Nat->Option Bool} {p q:Prop} (h:Region.wanted o y=ό) (d:p):if Region.wanted o y then p else q:=by
 rw[ϒ h];exact d
def gh:Nat->Bool->Bool->Bool->Bool->Bool->Tr
 | 0,_,_,_,_,_=> .op 8 ύ (.op 9 ό (.op 10 ύ (.op 11 ύ .done)))
 | n+1,d0,d3,d5,d6,d7=> .br ((if d0 then [] else [0])++(if d3 then [] else [3])++(if d0&& !d5 then [5] else [])++(if d6 then [] else [6])++(if d7 then [] else [7]))
  (λk=>if k=0 then .op 1 ύ (gh n ό d3 d5 d6 d7) else if k=3 then gh n d0 ό d5 d6 d7 else if k=5 then gh n d0 d3 ό d6 d7 else if k=6 then gh n d0 d3 d5 ό d7 else gh n d0 d3 d5 d6 ό)
def XP (d0 d3 d5 d6 d7:Bool):Nat:=(if d0 then 0 else 1)+(if d3 then 0 else 1)+(if d5 then 0 else 1)+(if d6 then 0 else 1)+(if d7 then 0 else 1)
section
variable {l:List Oper} {T0:Nat} {Q:Act->World->Prop} {A:Act} {wB:World}
def Mv (aq:50<=A.tmps.size)
  (ae: ∃ty ps af,l[0]? =ϊ {dst:=ϊ 42,op:= .call {callee:= .value (.func 43),args:= #[],argTypes:= #[]},type:=ty,pos:=ps,after:=af,guard:=ϋ})
  (ag: ∃ty ps af,l[1]? =ϊ {dst:=ϊ 43,op:= .build 86 #[(0,.tmp 42)],type:=ty,pos:=ps,after:=af,guard:=ϋ})
  (ah: ∃ty ps af,l[3]? =ϊ {dst:=ϊ 45,op:= .makeMap 87 ϋ,type:=ty,pos:=ps,after:=af,guard:=ϋ})
  (ai: ∃ty ps af,l[5]? =ϊ {dst:=ϊ 47,op:= .call {callee:= .value (.func 44),args:= #[],argTypes:= #[]},type:=ty,pos:=ps,after:=af,guard:=ϋ})
  (aj: ∃ty ps af,l[6]? =ϊ {dst:=ϊ 48,op:= .makeMap 90 ϋ,type:=ty,pos:=ps,after:=af,guard:=ϋ})
  (ak: ∃ty ps af,l[7]? =ϊ {dst:=ϊ 49,op:= .makeMap 91 ϋ,type:=ty,pos:=ps,after:=af,guard:=ϋ})
  (ap: ∀x w T,Y9 wB ό ό ό ό ό x w T->zG prog l.toArray T0 (λw'=> ∃y:qu wB,w'=y.w') Q (.op 8 ύ (.op 9 ό (.op 10 ύ (.op 11 ύ .done)))) (pA A x) w):
  ∀(n:Nat) (O H I J N:Bool) (x:Xs) (w:World) (T:Nat->Tg),n=XP O H I J N->Y9 wB O H I J N x w T->zG prog l.toArray T0 (λw'=> ∃y:qu wB,w'=y.w') Q (gh n O H I J N) (pA A x) w:=by
 obtain⟨aH,aB,au,ae⟩:=ae;obtain⟨aI,aC,av,ag⟩:=ag;obtain⟨aJ,aD,aw,ah⟩:=ah;obtain⟨aK,aE,ax,ai⟩:=ai;obtain⟨aL,aF,ay,aj⟩:=aj;obtain⟨aM,aG,az,ak⟩:=ak;intro n
 induction n with
 | zero=>
  intro O H I J N x w T aa U;have e:O=ό/\H=ό/\I=ό/\J=ό/\N=ό:=by
   cases O<;>cases H<;>cases I<;>cases J<;>cases N<;>simp[XP] at aa ⊢
  obtain⟨rfl,rfl,rfl,rfl,rfl⟩:=e;exact ap x w T U
 | succ n ih=>
  intro O H I J N x w T aa U;have Y:=U.no;unfold gh;unfold zG;intro k G;simp only[ϥ] at G;rcases G with (((G | G) | G) | G) | G
  ·cases O with
   | true=>simp at G
   | false=>
    simp at G;subst G;simp only[A6,ae,ϩ,Ψ];refine vT rfl ?_;refine zL (D:=λw'=> ∃y:qu wB,w'=y.w') (λ_ h=>yY h) (DQ ?_);refine(Sf w).mono ?_;rintro e w' ⟨B,b,rfl,al,am,ab,ac⟩;have d:=U.grow ac .book;refine⟨_,rfl,qo (U.more.trans ac), ?_⟩;rw[Oq];show zG _ _ _ _ _ (.op 1 ύ (gh n ό H I J N)) _ _;refine qK ag rfl (qo (U.more.trans ac)) λK ar=> ?_
    refine⟨θ #[γ B],λw2 aA=> ?_, ?_⟩
    ·unfold Oper.quietAt execOp;simp only[K2,ϡ,C8];have an:=EB A {x with x42:= γ B} aq;simp only at an;rw[an];go_simp
    ·refine ar _ ?_;rw[Oo];exact ih ό H I J N _ w' _ (by cases H<;>cases I<;>cases J<;>cases N<;>simp[XP] at aa ⊢ <;>omega)
      ⟨d.more,d.fresh,λ_=>⟨B,b,rfl,rfl,yC Y η al (qq ab.blk),yC Y η am ab.map.lt,ab⟩,d.rt,d.tb,d.ls,d.ss⟩
  ·cases H with
   | true=>simp at G
   | false=>
    simp at G;subst G;simp only[A6,ah,ϩ];refine vT rfl ?_;have m:=qh.alloc w (.map #[] 0);have d:=U.grow m .ret;refine zL (D:=λw'=> ∃y:qu wB,w'=y.w') (λ_ h=>yY h) (Zh ⟨qo d.more, ?_⟩);rw[On];exact ih O ό I J N _ _ _ (by cases O<;>cases I<;>cases J<;>cases N<;>simp[XP] at aa ⊢ <;>omega)
     ⟨d.more,d.fresh,d.bk,λ_=>⟨w.heap.size,rfl,yC Y η (ϕ _) η,jm.made w _ _⟩,d.tb,d.ls,d.ss⟩
  ·cases O<;>cases I<;>simp at G
   subst G;simp only[A6,ai,ϩ];refine vT rfl ?_;refine zL (D:=λw'=> ∃y:qu wB,w'=y.w') (λ_ h=>yY h) (WK ?_);refine(OW w).mono ?_;rintro e w' ⟨t,a,b,c,rfl,al,am,ab,ac,ad,ao⟩;have d:=U.grow ao .table;refine⟨_,rfl,qo (U.more.trans ao), ?_⟩;rw[Om];exact ih ό H ό J N _ w' _ (by cases H<;>cases J<;>cases N<;>simp[XP] at aa ⊢ <;>omega)
    ⟨d.more,d.fresh,d.bk,d.rt,λ_=>⟨t,a,b,c,rfl,yC Y η al (qq ad.blk),yC Y η am ad.mo.lt,yC Y η ab ad.ms.lt,yC Y η ac ad.mu.lt,ad⟩,d.ls,d.ss⟩
  ·cases J with
   | true=>simp at G
   | false=>
    simp at G;subst G;simp only[A6,aj,ϩ];refine vT rfl ?_;have m:=qh.alloc w (.map #[] 0);have d:=U.grow m .lns;refine zL (D:=λw'=> ∃y:qu wB,w'=y.w') (λ_ h=>yY h) (Zh ⟨qo d.more, ?_⟩);rw[Ol];exact ih O H I ό N _ _ _ (by cases O<;>cases H<;>cases I<;>cases N<;>simp[XP] at aa ⊢ <;>omega)
     ⟨d.more,d.fresh,d.bk,d.rt,d.tb,λ_=>⟨w.heap.size,rfl,yC Y η (ϕ _) η,jm.made w _ _⟩,d.ss⟩
  ·cases N with
   | true=>simp at G
   | false=>
    simp at G;subst G;simp only[A6,ak,ϩ];refine vT rfl ?_;have m:=qh.alloc w (.map #[] 0);have d:=U.grow m .sts;refine zL (D:=λw'=> ∃y:qu wB,w'=y.w') (λ_ h=>yY h) (Zh ⟨qo d.more, ?_⟩);rw[Ok];exact ih O H I J ό _ _ _ (by cases O<;>cases H<;>cases I<;>cases J<;>simp[XP] at aa ⊢ <;>omega)
     ⟨d.more,d.fresh,d.bk,d.rt,d.tb,d.ls,λ_=>⟨w.heap.size,rfl,yC Y η (ϕ _) η,jm.made w _ _⟩⟩
def Ii (A:Act) (h:50<=A.tmps.size): ∃x,pA A x=A:=by
 refine⟨⟨A.tmps.getD 42 undef,A.tmps.getD 43 undef,A.tmps.getD 45 undef,A.tmps.getD 47 undef,A.tmps.getD 48 undef,A.tmps.getD 49 undef⟩, ?_⟩;unfold pA;simp only;rw[kP A 42 τ,kP A 43 τ,kP A 45 τ,kP A 47 τ,kP A 48 τ,kP A 49 τ]
def DK (d:50<=A.tmps.size)
  (H: ∃ty ps af,l[0]? =ϊ {dst:=ϊ 42,op:= .call {callee:= .value (.func 43),args:= #[],argTypes:= #[]},type:=ty,pos:=ps,after:=af,guard:=ϋ})
  (I: ∃ty ps af,l[1]? =ϊ {dst:=ϊ 43,op:= .build 86 #[(0,.tmp 42)],type:=ty,pos:=ps,after:=af,guard:=ϋ})
  (J: ∃ty ps af,l[3]? =ϊ {dst:=ϊ 45,op:= .makeMap 87 ϋ,type:=ty,pos:=ps,after:=af,guard:=ϋ})
  (N: ∃ty ps af,l[5]? =ϊ {dst:=ϊ 47,op:= .call {callee:= .value (.func 44),args:= #[],argTypes:= #[]},type:=ty,pos:=ps,after:=af,guard:=ϋ})
  (O: ∃ty ps af,l[6]? =ϊ {dst:=ϊ 48,op:= .makeMap 90 ϋ,type:=ty,pos:=ps,after:=af,guard:=ϋ})
  (U: ∃ty ps af,l[7]? =ϊ {dst:=ϊ 49,op:= .makeMap 91 ϋ,type:=ty,pos:=ps,after:=af,guard:=ϋ})
  (w:World) (m:qh wB w)
  (G: ∀x w T,Y9 wB ό ό ό ό ό x w T->zG prog l.toArray T0 (λw'=> ∃y:qu wB,w'=y.w') Q (.op 8 ύ (.op 9 ό (.op 10 ύ (.op 11 ύ .done)))) (pA A x) w):
  zG prog l.toArray T0 (λw'=> ∃y:qu wB,w'=y.w') Q (gh 5 ύ ύ ύ ύ ύ) A w:=by
 obtain⟨x,e⟩:=Ii A d;have:=Mv (Q:=Q) (T0:=T0) d H I J N O U G 5 ύ ύ ύ ύ ύ x w (λ_=> .no) rfl ⟨m,λb Y=>ϧ rfl Y,λe=>(by cases e),λe=>(by cases e),λe=>(by cases e),λe=>(by cases e),λe=>(by cases e)⟩;rw[e] at this;exact this
end
def Ei {w8 w9:World} {x:Xs} {RQ AQ:Nat} (ae:qh w I) (G:Y9 I ό ό ό ό ό x w8 T) (aF:w.heap.size<=RQ/\RQ<I.heap.size) (aG:w.heap.size<=AQ/\AQ<I.heap.size)
  (d:yr I RQ AQ c.room.toNat 0 [] 0 0 0 0 (List.replicate c.room.toNat [δ ϋ 0 0])) (N:qh w8 w9) (aE:w8.heap.size<=R/\R<w9.heap.size)
  (ar: ∀B O aa U Y,x.x43= θ #[γ B]->x.x45= .map (ϊ O)->x.x47= γ aa->x.x48= .map (ϊ U)->x.x49= .map (ϊ Y)->w9.heap[R]? =ϊ (.cells #[γ B,ι c.room,ι c.hold,ι c.wait,ι c.space,ι c.retry,ι c.most,ύ,.map (ϊ O),ι 0,γ RQ,γ aa,.map (ϊ U),.map (ϊ Y),(),(),ι 0,ι 0,ι 0,ι 0,ι 0] 95 (0,0))):
  ∃k,k.R=R/\qL w w9 k (uL c) []:=by
 obtain⟨B,b,aD,ag,aw,tb,al⟩:=G.bk rfl;obtain⟨O,ah,ax,am⟩:=G.rt rfl;obtain⟨aa,aA,aB,aC,ai,t1,t2,t3,t4,ap⟩:=G.tb rfl;obtain⟨U,aj,ay,an⟩:=G.ls rfl;obtain⟨Y,ak,az,ao⟩:=G.ss rfl;have au:=ar B O aa U Y ag ah ai aj ak;have aH:=G.more.size;have aq: ∀{q:Nat} {u:Tg},u≠ .no->T q=u->I.heap.size<=q/\q<w8.heap.size:=λad d=>G.fresh _ (by rw[d];exact ad)
 obtain⟨ab,J⟩: ∃ab:Nat->Tg,ab=λq=>if q=RQ∨q=AQ then Tg.queue else if q=R then Tg.room else T q:=⟨_,rfl⟩
 have H: ∀{q:Nat} {u:Tg},u≠ .no->T q=u->ab q=u:=λad d=>by
  have:=aq ad d;rw[J];simp only;rw[ώ τ,ώ τ];exact d
 have af:qh I w9:=G.more.trans N;refine⟨⟨R,O,RQ,AQ,aa,aA,aB,aC,B,b,U,Y,[],[]⟩,rfl,ab,δ ϋ 0 0,δ ϋ 0 0,⟨λu=> ?_,λq d=> ?_,λq d=>(by cases d),ae.trans af⟩⟩
 ·cases u with
  | no=>
   intro q d;rw[J];simp only;rw[ώ τ,ώ τ];cases e:T q<;>first | rfl | (exfalso;have:=(G.fresh q (by rw[e];simp)).2;omega)
  | junk=>trivial
  | data=>trivial
  | room=>
   refine⟨?_,au⟩;rw[J];simp only;rw[ώ τ];simp
  | ret=>exact⟨H η ax,am.more N⟩
  | queue=>
   have av:=d.more af;refine⟨by rw[J];simp,by rw[J];simp,0,[],0,0,0,0,_,av,trivial⟩
  | table=>exact⟨H η t1,H η t2,H η t3,H η t4,ap.more N⟩
  | book=>exact⟨H η aw,H η tb,al.more N⟩
  | lns=>exact⟨H η ay,an.more N⟩
  | sts=>exact⟨H η az,ao.more N⟩
  | pks=>exact⟨jd.nil _ _ _ _ _ _,λg ac=>by cases ac⟩
  | reqs=>exact⟨jd.nil _ _ _ _ _ _,λg ac=>by cases ac⟩
  | lane y=>exact⟨λp l h=>(by cases h),rfl⟩
  | str o=>exact⟨λp t h=>(by cases h),rfl⟩
 ·rw[J] at d;simp only at d;have:=ae.size;split at d
  ·rename_i e;rcases e with e | e<;>omega
  ·split at d
   ·omega
   ·have:=(G.fresh q d).1;omega
def RX (c:CfR) (av:yb c=ό) (w:World):
  Calls prog 9 #[θ #[ι c.room,ι c.hold,ι c.wait,ι c.space,ι c.retry,ι c.most]] w λe w'=> ∃k,e= .returned (.tuple #[γ k.R,ι 0])/\qL w w' k (uL c) []/\qh w w':=by
 obtain⟨c1,c2,c3,c4⟩:=vN av;obtain⟨W1,N⟩:=ν (w.alloc (.cells #[ι c.room,ι c.hold,ι c.wait,ι c.space,ι c.retry,ι c.most] 25));have U:Hid (qh w W1):=κ (by rw[<-N];exact qh.alloc _ _);have d:Hid (W1.heap[w.heap.size]? =ϊ (.cells #[ι c.room,ι c.hold,ι c.wait,ι c.space,ι c.retry,ι c.most] 25 (0,0))):=κ (by rw[<-N];exact qp w _);have aL:=κ (Yy c.room c.room.toNat τ τ τ W1);have aJ:=κ (λw'=>Vy c.hold c.wait w' c2);have af:=κ (λw'=>QY c.space c.retry w');rw[Ϩ c3] at af;have aX:=β0 d.o;clear c1 c2 c3 av
 go_enter func9,ntmps9
 go_upto_region 1 with fail
 (try rw[N])
 clear N
 go_upto_region 9 with (first | (go_at_call 40;(go_call aL.o as e w2 ⟨rfl,ar,n2⟩;have ae:=κ ar;have aN:=κ n2;have aY:=β1 (qj n2 d.o);have aZ:=β2 (qj n2 d.o);clear ar n2)) | (go_at_call 41;(go_call aJ.o _ as e bg ⟨rfl,_,ab,_⟩;have Y:=κ (aN.o.trans ab);have aO:=κ ab;have ba:=β3 (qj Y.o d.o);have bb:=β4 (qj Y.o d.o);clear ab)) | (go_at_call 42;(go_call af.o _ as e w4 ⟨rfl,ac⟩;have G:=κ (Y.o.trans ac);have ah:=κ (aO.o.trans ac);have bc:=β5 (qj G.o d.o);clear ac)))
 have aC: ∀y:qu w4,y.w'.cell? ⟨w.heap.size,0,ϋ⟩=ϊ (ι c.room):=λy=>qi (qj (G.o.trans y.h) d.o) 0 rfl
 have aD: ∀y:qu w4,y.w'.cell? ⟨w.heap.size,1,ϋ⟩=ϊ (ι c.hold):=λy=>qi (qj (G.o.trans y.h) d.o) 1 rfl
 have aE: ∀y:qu w4,y.w'.cell? ⟨w.heap.size,2,ϋ⟩=ϊ (ι c.wait):=λy=>qi (qj (G.o.trans y.h) d.o) 2 rfl
 have aF: ∀y:qu w4,y.w'.cell? ⟨w.heap.size,3,ϋ⟩=ϊ (ι c.space):=λy=>qi (qj (G.o.trans y.h) d.o) 3 rfl
 have aG: ∀y:qu w4,y.w'.cell? ⟨w.heap.size,4,ϋ⟩=ϊ (ι c.retry):=λy=>qi (qj (G.o.trans y.h) d.o) 4 rfl
 have aH: ∀y:qu w4,y.w'.cell? ⟨w.heap.size,5,ϋ⟩=ϊ (ι c.most):=λy=>qi (qj (G.o.trans y.h) d.o) 5 rfl
 refine ye w4 12 (.op 2 ύ (.op 4 ύ (gh 5 ύ ύ ύ ύ ύ))) ξ ξ ?_
 iterate 2 (refine qK rfl rfl (qo ρ) ?_;intro K I;go_big_quiet_op;go_big_quiet_on)
 clear aC aD aE aF aG aH;refine DK η ⟨_,_,_,rfl⟩ ⟨_,_,_,rfl⟩ ⟨_,_,_,rfl⟩ ⟨_,_,_,rfl⟩ ⟨_,_,_,rfl⟩ ⟨_,_,_,rfl⟩ _ (qh.drewN w4 1) ?_;intro x w8 T H;obtain⟨B,b,ak,am,_⟩:=H.bk rfl;obtain⟨ag,an,_⟩:=H.rt rfl;obtain⟨aB,bd,be,bf,ao,_⟩:=H.tb rfl;obtain⟨ai,ap,_⟩:=H.ls rfl;obtain⟨aj,aq,_⟩:=H.ss rfl;have aI:=κ H;have J:=κ H.more;clear H;obtain⟨x42,x43,x45,x47,x48,x49⟩:=x;simp only at ak am an ao ap aq;subst ak am an ao ap aq;unfold pA;simp only[Act.put];go_simp;refine qK rfl rfl (qo J.o) ?_;intro K I
 go_big_quiet_op
 go_big_quiet_on
 (refine qV rfl rfl ?_;intro K I;unfold jt;go_simp)
 refine⟨qo (J.o.al _),I _ _ ?_⟩;clear I K;obtain⟨w9,O⟩:=ν (w8.alloc (.cells #[γ B,ι c.room,ι c.hold,ι c.wait,ι c.space,ι c.retry,ι c.most,ύ,.map (ϊ ag),ι 0,γ (W1.heap.size+1),γ aB,.map (ϊ ai),.map (ϊ aj),(),(),ι 0,ι 0,ι 0,ι 0,ι 0] 95));have aa:Hid (qh w8 w9):=κ (by rw[<-O];exact qh.alloc _ _);have ad:Hid (w9.heap[w8.heap.size]? =ϊ (.cells #[γ B,ι c.room,ι c.hold,ι c.wait,ι c.space,ι c.retry,ι c.most,ύ,.map (ϊ ag),ι 0,γ (W1.heap.size+1),γ aB,.map (ϊ ai),.map (ϊ aj),(),(),ι 0,ι 0,ι 0,ι 0,ι 0] 95 (0,0))):=κ (by rw[<-O];exact qp w8 _)
 (try rw[O])
 clear O
 iterate 2 (refine qK rfl rfl (qo (J.o.trans aa.o)) ?_;intro K I;go_big_quiet_op;go_big_quiet_on)
 refine zD ?_;have aQ:=qq ae.o.ring;have aR:=ah.o.size;have aS:=U.o.size
 obtain⟨aT,aP,au⟩:=Ei (c:=c) (RQ:=W1.heap.size+1) (AQ:=W1.heap.size) (R:=w8.heap.size) (U.o.trans G.o) aI.o ⟨τ,τ⟩ ⟨τ,τ⟩ (ae.o.more ah.o) aa.o ⟨ϕ _,qq ad.o⟩ (λaU aW t' aV S' aw ax ay az aA=>by
  simp at aw ax ay az aA;subst aw ax ay az aA
  exact ad.o)
 have aM:=κ au;have aK:=κ (U.o.trans (G.o.trans (J.o.trans aa.o)));clear au aQ aR aS;go_wp2
 go_ret2
 exact⟨aT,by rw[aP];rfl,aM.o,aK.o⟩
def Le (c:CfR) (O:yb c=ύ) (w:World):
  Calls prog 9 #[θ #[ι c.room,ι c.hold,ι c.wait,ι c.space,ι c.retry,ι c.most]] w λe w'=>e= .returned (.tuple #[π ϋ,ι 1])/\qh w w':=by
 obtain⟨W1,G⟩:=ν (w.alloc (.cells #[ι c.room,ι c.hold,ι c.wait,ι c.space,ι c.retry,ι c.most] 25));have ac:Hid (qh w W1):=κ (by rw[<-G];exact qh.alloc _ _);have d:Hid (W1.heap[w.heap.size]? =ϊ (.cells #[ι c.room,ι c.hold,ι c.wait,ι c.space,ι c.retry,ι c.most] 25 (0,0))):=κ (by rw[<-G];exact qp w _);have ak:=β0 d.o;by_cases hr:c.room<1∨8<c.room
 ·have J:=κ (EU c.room hr W1);clear hr O
  go_enter func9,ntmps9
  go_upto_region 1 with fail
  (try rw[G])
  clear G
  go_wp2_with ((go_at_call 40;(go_call J.o as e w2 ⟨rfl,n2⟩;have H:=κ n2;clear n2)))
  go_ret2
  exact⟨rfl,ac.o.trans H.o⟩
 ·have J:=κ (Yy c.room c.room.toNat τ τ τ W1);by_cases hj:gi c.hold c.wait
  ·have ab:=κ (λw'=>Vy c.hold c.wait w' hj);have aa:=κ (λw'=>QY c.space c.retry w');by_cases ha:1<=c.space/\c.space<=c.retry/\c.retry<=1000
   ·rw[Ϩ ha] at aa;have ae:c.most<1∨10<c.most:=by
     simp[yb,hj,ha] at O;omega
    rcases ae with ae | ae
    all_goals
     clear hr O hj ha
     go_enter func9,ntmps9
     go_upto_region 1 with fail
     (try rw[G])
     clear G
     go_wp2_with (first | (go_at_call 40;(go_call J.o as e w2 ⟨rfl,N,n2⟩;have H:=κ n2;have af:=β1 (qj n2 d.o);have ag:=β2 (qj n2 d.o);clear N n2)) | (go_at_call 41;(go_call ab.o _ as e ah ⟨rfl,_,U,_⟩;have I:=κ (H.o.trans U);have ai:=β3 (qj I.o d.o);have aj:=β4 (qj I.o d.o);clear U)) | (go_at_call 42;(go_call aa.o _ as e w4 ⟨rfl,Y⟩;have ad:=κ (I.o.trans Y);have al:=β5 (qj ad.o d.o);clear Y)))
     go_ret2
     exact⟨rfl,ac.o.trans ad.o⟩
   ·rw[Ϯ ha] at aa;clear hr O hj ha
    go_enter func9,ntmps9
    go_upto_region 1 with fail
    (try rw[G])
    clear G
    go_wp2_with (first | (go_at_call 40;(go_call J.o as e w2 ⟨rfl,N,n2⟩;have H:=κ n2;have af:=β1 (qj n2 d.o);have ag:=β2 (qj n2 d.o);clear N n2)) | (go_at_call 41;(go_call ab.o _ as e ah ⟨rfl,_,U,_⟩;have I:=κ (H.o.trans U);have ai:=β3 (qj I.o d.o);have aj:=β4 (qj I.o d.o);clear U)) | (go_at_call 42;(go_call aa.o _ as e w4 ⟨rfl,Y⟩;have ad:=κ (I.o.trans Y);clear Y)))
    go_ret2
    exact⟨rfl,ac.o.trans ad.o⟩
  ·have ab:=κ (λw'=>NE c.hold c.wait w' hj);clear hr O hj
   go_enter func9,ntmps9
   go_upto_region 1 with fail
   (try rw[G])
   clear G
   go_wp2_with (first | (go_at_call 40;(go_call J.o as e w2 ⟨rfl,N,n2⟩;have H:=κ n2;have af:=β1 (qj n2 d.o);have ag:=β2 (qj n2 d.o);clear N n2)) | (go_at_call 41;(go_call ab.o _ as e ah ⟨rfl,rfl⟩)))
   go_ret2
   exact⟨rfl,ac.o.trans H.o⟩
def RmR (w0 w:World) (R:Nat) (s:RmS) (F:List Nat):Prop:= ∃k:RmK,k.R=R/\qL w0 w k s F
section
variable {w0 w w':World} {R:Nat} {s s':RmS} {F F' Fn:List Nat} {n:Nat}
def RmR.on (h:RmR w0 w R s F) (m:qh w w'):RmR w0 w' R s F:=h.elim λk h=>⟨k,h.1,h.2.on m⟩
def RmR.sub (h:RmR w0 w R s F) (d: ∀b∈F',b∈F):RmR w0 w R s F':=h.elim λk h=>⟨k,h.1,h.2.sub d⟩
def RmR.adds (h:RmR w0 w R s F) (m:qh w w') (d: ∀b∈Fn,w.heap.size<=b/\b<w'.heap.size):RmR w0 w' R s (Fn++F):=h.elim λk h=>⟨k,h.1,h.2.adds m d⟩
def RmR.more (h:RmR w0 w R s F):qh w0 w:=h.elim λ_ h=>h.2.more
def RmR.stay (h:RmR w0 w R s F) (m:qh w w'):qA F w w':=h.elim λ_ h=>h.2.stay m
def RmR.lt (h:RmR w0 w R s F): ∀b∈F,b<w.heap.size:=λb d=>h.elim λ_ h=>(h.2.law b d).2
def RmR.bk (h:RmR w0 w R s F): ∃B b,w.cell? ⟨R,0,ϋ⟩=ϊ (π (ϊ ⟨B,0,ϋ⟩))/\jE w B b s.book:=by
 obtain⟨k,rfl,T,vp,d,h⟩:=h;exact⟨k.B,k.b,qi h.blk 0 rfl,h.bok⟩
def RmR.tkeys (h:RmR w0 w R s F):(s.tab.u.map Prod.fst).Nodup:=by
 obtain⟨k,rfl,T,vp,d,h⟩:=h;exact h.tab.mu.keys
def Bv (c:CfR) (d:yb c=ό) (w:World):
  Calls prog 9 #[θ #[ι c.room,ι c.hold,ι c.wait,ι c.space,ι c.retry,ι c.most]] w λe w'=> ∃R,e= .returned (.tuple #[γ R,ι 0])/\RmR w w' R (uL c) []/\qh w w':=
 (RX c d w).mono λ_ _ h=>h.elim λk h=>⟨k.R,h.1,⟨k,rfl,h.2.1⟩,h.2.2⟩
def Ru (h:RmR w0 w R s F) (G:yb s.cfg=ό) (p s0 s1 s2:Int) (H:s.publish p s0 s1 s2=(s',a)):
  Calls prog 45 #[γ R,ι p,θ #[ω s0,ω s1,ω s2]] w λe w'=>e= .returned (ι a)/\RmR w0 w' R s' F/\qA F w w':=by
 obtain⟨k,rfl,h⟩:=h;refine(KY h G p s0 s1 s2).mono ?_;rintro e w' ⟨k',I,rfl,d,t⟩;rw[H] at d ⊢;exact⟨rfl,⟨k',I,d⟩,t⟩
def OA (h:RmR w0 w R s F) (H:yb s.cfg=ό) (x d sq st:Int) (O:U16 sq) (N:U32 d) (I:s.join x d sq st=(s',a)):
  Calls prog 35 #[γ R,ι x,ω d,φ sq,ω st] w λe w'=>e= .returned (ι a)/\RmR w0 w' R s' F/\qA F w w':=by
 obtain⟨k,rfl,h⟩:=h;refine(LY h H x d sq st O N).mono ?_;rintro e w' ⟨k',J,rfl,G,t⟩;rw[I] at G ⊢;exact⟨rfl,⟨k',J,G⟩,t⟩
def Oh (h:RmR w0 w R s F) (H:qT n s) (I:n<=1000) (x p m:Int) (G:s.subscribe x p m=(s',a)):
  Calls prog 46 #[γ R,ι x,ι p,ι m] w λe w'=>e= .returned (ι a)/\RmR w0 w' R s' F/\qA F w w':=by
 obtain⟨k,rfl,h⟩:=h;refine(ZE h (H.subs I) x p m).mono ?_;rintro e w' ⟨rfl,d,t⟩;rw[G] at d ⊢;exact⟨rfl,⟨k,rfl,d⟩,t⟩
def Od (h:RmR w0 w R s F) (H:qT n s) (I:n<=1000) (G:s.tick=(s',a)):
  Calls prog 34 #[γ R] w λe w'=>e= .returned (ι a)/\RmR w0 w' R s' F/\qA F w w':=by
 obtain⟨k,rfl,h⟩:=h;refine(LV h H I).mono ?_;rintro e w' ⟨rfl,d,t⟩;rw[G] at d ⊢;exact⟨rfl,⟨k,rfl,d⟩,t⟩
def NP (h:RmR w0 w R s F) (b:List Int) (v:Value) (N:SlI .u8 w v b) (G:Byt b) (J:b.length<=1000000) (I:0<=s.cnt.lost/\s.cnt.lost<=1000000000) (H:s.arrive b=(s',a)):
  Calls prog 33 #[γ R,v] w λe w'=>e= .returned (ι a)/\RmR w0 w' R s' F/\qA F w w':=by
 obtain⟨k,rfl,h⟩:=h;refine(PA h b v N G J I).mono ?_;rintro e w' ⟨rfl,d,t⟩;rw[H] at d ⊢;exact⟨rfl,⟨k,rfl,d⟩,t⟩
def RI (h:n<=1000):n<=10000:=ϙ h ζ
def LC (h:RmR w0 w R s F) (H:qT n s) (I:n<=10000) (w1 w2:Int) (acc:Bool) {a:Bool} (G:s.pick (w1,w2) acc=(s',a)):
  Calls prog 31 #[γ R,θ #[ι w1,ι w2],acc] w λe w'=>e= .returned (μ a)/\RmR w0 w' R s' F/\qA F w w':=by
 obtain⟨k,rfl,h⟩:=h;refine(LW h H I w1 w2 acc).mono ?_;rintro e w' ⟨rfl,d,t⟩;rw[G] at d ⊢;exact⟨rfl,⟨k,rfl,d⟩,t⟩
def LG (h:RmR w0 w R s F) (x:Int) (d:s.ln x=l) {t:Bool} (G:(qm s.lanes x).isSome=t):Calls prog 24 #[γ R,ι x] w λe w'=>
  e= .returned (.tuple #[θ #[ι l.cur,ι l.tgt],θ #[ι l.A.length,ι l.B.length,ι l.C.length],l.gone,t])/\qh w w':=by
 obtain⟨k,rfl,T,vp,H,h⟩:=h;rw[<-d,<-G];exact Rc h x
def IR (h:RmR w0 w R s F) {c:CnR} (d:s.cnt=c):Calls prog 19 #[γ R] w λe w'=>e= .returned (θ #[ι c.lost,ι c.malf,ι c.strange,ι c.told,ι c.acc])/\qh w w':=by
 obtain⟨k,rfl,h⟩:=h;rw[<-d];exact Lf h
def Rz (h:RmR w0 w R s F) (G:qT n s) (H:n<=10000) {a:AcS} (d:s.pks[i]? =ϊ a):
  Calls prog 15 #[γ R,ι (i:Int)] w λe w'=> ∃os oe ol ks ke kl,e= .returned (.tuple #[(Γi a.o.1 a.o.2 a.num a.pk os ks oe ke ol kl),ό])/\PkS w' (δ os a.pk.ss.length ks) (δ oe a.pk.ex.length ke) (δ ol a.pk.pl.length kl) a.pk/\qh w w':=by
 obtain⟨k,rfl,T,vp,I,h⟩:=h;obtain⟨hi,e⟩:=ϟ.1 d;exact Ld h (λa d=>(G.num.pkok a d).2.1) (G.rd H).pks hi e
def Rk (h:RmR w0 w R s F) (x:Int) (d:(s.ln x).W.length<=1000000):Calls prog 14 #[γ R,ι x] w λe w'=>(∃v,e= .returned v/\jd 2 (ROn w.heap.size) (λb=>b<w.heap.size) w' w.heap.size 56 v (s.ln x).W)/\qh w w':=by
 obtain⟨k,rfl,T,vp,G,h⟩:=h;exact FR h x d
end
def qA.cell (h:qA F w w') {b:Nat} (d:b∈F) (i:Nat):w'.cell? ⟨b,i,ϋ⟩=w.cell? ⟨b,i,ϋ⟩:=by
 unfold World.cell?;simp only;rw[h.2 b d]
def SlI.addr {k:IntKind} {G:Option Addr} {l:List Int} (h:SlI k w (δ G n cap) l) (J:0<l.length): ∃b d,G=ϊ ⟨b,d,ϋ⟩/\b<w.heap.size/\n=l.length:=by
 obtain⟨O,N,e,_,H,_⟩:=h;injection e with e1 e2 e3
 subst e1 e2 e3;obtain⟨b,d,rfl,I,_⟩:=H 0 J;exact⟨b,d,rfl,I,rfl⟩
def EI (x y:Int) (w:World):(binOp .neq 58 (θ #[ι x,ι y]) (θ #[ι x,ι y])).run prog w= .ok (μ ύ) w:=by
 have d:prog.stoodInHeld 58=ύ:=by kernel_rfl
 rw[run_neq_struct,show (10000:Nat)=9999+1 from rfl,run_equalIn_agg w 9999 58 _ _ ξ d];simp[go_sem]
section
variable {w0 w w':World} {R:Nat} {s s':RmS} {F F' Fn:List Nat} {n:Nat}
def RN (h:RmR w0 w R s F) (U:qT n s) (aa:n<=1000) (a:A22) (G:Option Addr) (d:Nat) (ad:SlI .u8 w (δ G a.b.length d) a.b) (O:Byt a.b) (Y:a.b.length<=400) (ac:U16 a.seq) (ab:U32 a.own):
  Calls prog 12 #[γ R,θ #[ι a.act,ι a.sub,ι a.pub,ι a.layer,δ G a.b.length d,ι a.w.1,ι a.w.2,a.acc,ω a.own,ω a.stamp,φ a.seq,ω a.s0,ω a.s1,ω a.s2]] w λe w'=>
   e= .returned (.tuple #[ι (doR s a).2.1,μ (doR s a).2.2])/\RmR w0 w' R (doR s a).1 F/\qA F w w':=by
 obtain⟨k,rfl,h⟩:=h;exact(RDo h U aa a G d ad O Y ac ab).mono λe w' ⟨k',H,I,J,N⟩=>⟨I,⟨k',H,J⟩,N⟩
end
def Vg (s:RmS):s.workers.length<=20:=by
 have h:=GG s.there subIds;exact ϙ h ζ
def Yk {d:World} (h:RmR d w R s F):Calls prog 26 #[γ R] w λe w'=> ∃v,e= .returned v/\jd 2 RO (λ_=>False) w' w.heap.size 37 v s.workers/\qh w w':=by
 obtain⟨k,rfl,T,vp,G,h⟩:=h;exact YT h
def Mr: ∀(w:World) (cs:List Value) (y:Og),RO w cs y-> ∀u∈cs,u.oneCell'=ό:=by
 rintro w cs y h u d;obtain rfl:cs=[ι y.1,ι y.2]:=h;simp at d;rcases d with rfl | rfl<;>rfl
def Do (L:List Og) (i k:Nat) (h:k<L.length):(gf L i).take (k+1)=(gf L i).take k++[L.getD ((i+k)%L.length) (0,0)]:=by
 rw[ϵ (by rw[QF];exact h)]
 congr 2
 unfold gf;rw[K0,List.getElem_range]
def ZA {aU:World} (h:RmR aU w R s F) (n:Nat) (be:n<=112) (v:Value) (M:List Og) (aj:SlP 2 RO w v M) (aZ:M.length<=20):
  Calls prog 29 #[γ R,ι (n:Int),v] w λe w'=>(∃v',e= .returned (.tuple #[v',ι ((M.length:Int)+(s.workers.length:Int))])/\jd 2 RO (λ_=>False) w' w.heap.size 37 v' (zi s.workers M n))/\qh w w':=by
 obtain⟨au,hi,ap,aq,ar⟩:=info_parts (P:=prog) (e:=37) (z:= θ #[ι 0,ι 0]) (size:=2) (bytes:=16) ξ;have ak:=κ (Yk h);have aM:=Vg s;obtain⟨L,ah⟩:=ν (s.workers);rw[ah] at ak aM;rw[ah];have aC:=κ aj;obtain⟨bk,aV,rfl,_⟩:=id aj;clear h ah aj
 go_enter func29,ntmps29
 go_wp2_with ((go_at_call 26;(go_call ak.o as e w1 ⟨bm,rfl,ax,aw⟩;obtain⟨bj,cap,rfl,av⟩:=Gv ax;have aE:=κ av;have ac:=κ aw;clear ax av aw)))
 go_loopw [9,15] (λu I wr=> ∃i:Nat,i<=n/\I= ι i/\(∃O N J,u= δ O N J)/\jd 2 RO (λ_=>False) wr w1.heap.size 37 u (zi L M i)/\qh w1 wr) (λ_ I _=>n-(intOf I).toNat)
 case atStart=>exact⟨0,τ,rfl,⟨_,_,_,rfl⟩,jd.nil _ _ _ _ _ _,qh.refl _⟩
 case round=>
  obtain⟨i,bc,rfl,⟨O,N,J,rfl⟩,ab,aa⟩:=hrel;have G:=κ ab;have d:=κ aa;clear ab aa;by_cases hlt:i<n
  ·have aK:(i:Int)<(n:Int):=by omega
   have bb:i<=111:=by omega
   have bf:(zi L M i).length<=4480:=by
    rw[vD];have aX:i* (M.length+L.length)<=112* (M.length+L.length):=A0 _ τ;omega
   have az:Hid (zi L M (i+1)=zi L M i++(M++gf L i)):=κ rfl;generalize zi L M i=B at *
   go_upto_block 7 with (at_builtin;(refine Qc w _ rfl (.tmp 18) (.tmp 19) 98 rfl w1.heap.size 37 au (θ #[ι 0,ι 0]) 2 16 underlying98 hi ap aq ar rfl ζ Vf Mr _ B rfl G.o _ M rfl aC.o (ac.o.trans d.o) (λb ai=>ϙ ac.o.size (G.o.ge ai)) ζ τ d.o.size ?_;intro v5 w5 H Y aP;have am:Hid (qh w1 w5):=κ (d.o.grown Y d.o.size (λz aQ=>G.o.ge aQ));obtain⟨bi,bg,c5,rfl,ao,_⟩:=H.shape;rw[Ϗ] at ao;subst ao;have an:=κ H;clear H Y aP))
   go_loopw [9,23] (λu I wr=> ∃k:Nat,k<=L.length/\I= ι k/\(∃O N J,u= δ O N J)/\jd 2 RO (λ_=>False) wr w1.heap.size 37 u (B++(M++(gf L i).take k))/\qh w1 wr) (λ_ I _=>L.length-(intOf I).toNat)
   case atStart=>exact⟨0,τ,rfl,⟨_,_,_,rfl⟩,by rw[Q6,Ω];exact an.o,am.o⟩
   case round=>
    clear G d an am;obtain⟨k,bd,rfl,⟨O,N,J,rfl⟩,ab,aa⟩:=hrel;have G:=κ ab;have d:=κ aa;clear ab aa;by_cases hlt2:k<L.length
    ·have aL:(k:Int)<(L.length:Int):=by omega
     have aO:0<L.length:=by omega
     have aN:((i:Int)+(k:Int))%(L.length:Int)=(((i+k)%L.length:Nat):Int):=by rw[G7];rfl
     have ag:=G6 (i+k) aO;have af:=κ (Do L i k hlt2);obtain⟨U,aI⟩:=ν ((i+k)%L.length);rw[aI] at aN ag af;have aY:(U:Int)<(L.length:Int):=by omega
     obtain⟨b,rfl,aG,aH⟩:=aE.o.2 _ d.o U ag;have aJ:L.getD U (0,0)=L[U]:=by rw[ϑ,ϖ ag];rfl
     rw[aJ] at af;generalize L[U]=y at *;obtain⟨ad,ae⟩:=y;simp only at aG aH;have ba:(B++(M++(gf L i).take k)).length<=4520:=by
      rw[Ϗ,Ϗ,ϛ,QF];omega
     have aD:Hid (B++(M++(gf L i).take (k+1))=(B++(M++(gf L i).take k))++[(ad,ae)]):=κ (by rw[af.o];simp[Ϫ]);generalize B++(M++(gf L i).take k)=C at *;have aB:=κ (G.o.on (qh.alloc wr (.cells #[ι ad,ι ae] 37)));have aA:Hid (∀b,(δ O N J).ownBlock=ϊ b->w1.heap.size<=b):=κ (λb h=>G.o.ge h)
     go_wp2_with (at_builtin;(refine jr (R:=RO) (D:=λ_=>False) _ rfl (.tmp 26) (.tmp 36) 98 rfl w1.heap.size 37 au (θ #[ι 0,ι 0]) 2 16 underlying98 hi ap aq ar rfl ζ _ C rfl aB.o wr.heap.size [ι ad,ι ae] (ad,ae) rfl rfl (ze η) Z5 (λw' _=>rfl) (λb h=>h.elim) ζ τ (d.o.al _).size ?_;intro v' w8 H Y ai;have aT:Hid (qh w1 w8):=κ (Below.grown (d.o.al _) Y (d.o.al _).size aA.o);obtain⟨bl,bh,aW,rfl,aR,aS⟩:=H.shape;have aF:=κ H;clear H Y ai aR aS))
     go_roundw
     case rel=>exact⟨k+1,τ,by go_num,⟨_,_,_,rfl⟩,by rw[aD.o];exact aF.o,aT.o⟩
     case measure=>simp[intOf];omega
    ·obtain rfl:k=L.length:=by omega
     have aL: ¬(L.length:Int)<(L.length:Int):=by omega
     have ay:Hid (B++(M++(gf L i).take L.length)=B++(M++gf L i)):=κ (by rw[<-QF L i,ϭ]);go_wp2;go_roundw
     case rel=>exact⟨i+1,τ,by go_num,⟨_,_,_,rfl⟩,by rw[az.o,<-ay.o];exact G.o,d.o⟩
     case measure=>simp[intOf];omega
  ·obtain rfl:i=n:=by omega
   have aK: ¬(i:Int)<(i:Int):=by omega
   go_wp2
   go_ret2
   exact⟨⟨_,rfl,G.o.low ac.o.size⟩,ac.o.trans d.o⟩
def cfq (c:CfR) (m:qh (w.alloc (.cells #[ι c.room,ι c.hold,ι c.wait,ι c.space,ι c.retry,ι c.most] 25)) w1):
  qh w w1/\w1.cell? ⟨w.heap.size,0,ϋ⟩=ϊ (ι c.room)/\w1.cell? ⟨w.heap.size,1,ϋ⟩=ϊ (ι c.hold)/\w1.cell? ⟨w.heap.size,2,ϋ⟩=ϊ (ι c.wait)/\w1.cell? ⟨w.heap.size,3,ϋ⟩=ϊ (ι c.space)/\w1.cell? ⟨w.heap.size,4,ϋ⟩=ϊ (ι c.retry)/\w1.cell? ⟨w.heap.size,5,ϋ⟩=ϊ (ι c.most):=by
 have B:=qj m (qp w _);exact⟨Z0.trans m,qi B 0 rfl,qi B 1 rfl,qi B 2 rfl,qi B 3 rfl,qi B 4 rfl,qi B 5 rfl⟩
def WC (s:RmS) (acc:Bool) (L:List Og) (j:Nat) (h:j<L.length):s.picks acc (L.take (j+1))=((s.picks acc (L.take j)).pick (L[j].1,L[j].2) acc).1:=by
 unfold RmS.picks;rw[ϵ h,Δ];rfl
def vB (acc:Bool) (L:List Og): ∀{n:Nat} {s:RmS},qT n s->qT (n+L.length) (s.picks acc L):=by
 induction L with
 | nil=>intro n s h;exact h
 | cons w L ih=>
  intro n s h;rw[WD,Ϙ,show n+(L.length+1)=n+1+L.length by omega];exact ih (h.pick w acc)
def BU {wr:World} {j:Nat} {acc:Bool} {L:List Og} (H:RmR I wr R (s.picks acc (L.take j)) F) (t:qA F w wr) (ab:qT n s) (ac:n+L.length<=10000) (aa:j<L.length) {G:Int} (U:L[j].1=d) (Y:L[j].2=G):
  ∃a,Calls prog 31 #[γ R,θ #[ι d,ι G],acc] (wr.alloc (.cells #[ι d,ι G] 37)) λe w'=>e= .returned (μ a)/\RmR I w' R (s.picks acc (L.take (j+1))) F/\qA F w w':=by
 subst U Y;have m:=qh.alloc wr (.cells #[ι L[j].1,ι L[j].2] 37);refine⟨_,(LC (H.on m) (vB acc _ ab) (by rw[ϛ];omega) _ _ acc rfl).mono λe w' ⟨J,N,O⟩=>⟨J, ?_,(t.trans (H.stay m)).trans O⟩⟩;rw[WC s acc L j aa];exact N
def GH {L:List Og} {base:Nat} (h:jd 2 RO (λ_=>False) w base 37 v L) (H:0<L.length): ∃g cap,v= δ (ϊ ⟨g,0,ϋ⟩) L.length cap/\base<=g/\g<w.heap.size/\
  ∀j (d:j<L.length),w.cell? ⟨g,j* 2,ϋ⟩=ϊ (ι L[j].1)/\w.cell? ⟨g,j* 2+1,ϋ⟩=ϊ (ι L[j].2):=by
 obtain⟨o,cap,rfl,k⟩:=Gv h;obtain⟨g,rfl,-,-⟩:=k.2 _ (qh.refl _) 0 H;refine⟨g,cap,rfl,h.ge rfl,h.lt rfl,λj d=> ?_⟩;obtain⟨b,e,G⟩:=k.2 _ (qh.refl _) j d;injection e with e
 injection e with e _ _
 subst e;exact G
def wj (L M:List Og): ∀n,∃d:List (List Og),d.length=n/\d.flatten=zi L M n/\ ∀X∈d,∀v∈L,v∈X
 | 0=>⟨[],rfl,rfl,λ_ h=>by cases h⟩
 | n+1=>by
  obtain⟨d,H,I,J⟩:=wj L M n;refine⟨d++[M++gf L n],by simp[H],by rw[I6,I];simp[zi],λX N v G=> ?_⟩;rcases ϥ.1 N with h | h
  ·exact J X h v G
  ·rw[Γ.1 h];exact ϔ _ (Fc G n)
def Zq (k:Nat): ∀s:RmS,s.tickN (k+1)=(s.tickN k).tick.1:=by
 induction k with
 | zero=>intro s;rfl
 | succ k ih=>intro s;exact ih s.tick.1
def kS (h:qT n s): ∀k,qT (n+k) (s.tickN k)
 | 0=>h
 | k+1=>by rw[Zq];exact(kS h k).tick
def JZ (J:qT n s) (I:gI c s) (M:List Og) {s1 s3:RmS} (d:s.picks ό (zi s.workers M s.cfg.room.toNat)=s1)
  (G:(s1.tickN s.cfg.wait.toNat).picks ό (zi s.workers M (4* s.cfg.room.toNat+9* s.cfg.hold.toNat))=s3):
  s1.closed=ύ/\s3.queue=[]/\s3.held=0/\(∀x l,qm s3.lanes x=ϊ l->l.A=[]/\l.B=[]/\l.C=[])/\(∀x i,qm s3.book (x,i)≠ϊ 0)/\ ∀w,s3.may w=ύ:=by
 obtain⟨aa,ac,ad,a3⟩:=wj s.workers M s.cfg.room.toNat;obtain⟨ab,ae,af,ag⟩:=wj s.workers M (4* s.cfg.room.toNat+9* s.cfg.hold.toNat);have N:=vB ό (zi s.workers M s.cfg.room.toNat) J;rw[d] at N;have O:=vB ό (zi s.workers M (4* s.cfg.room.toNat+9* s.cfg.hold.toNat)) (kS N s.cfg.wait.toNat);rw[G] at O;rw[<-ad] at d;rw[<-af] at G;have al:=J.num.fit;obtain⟨ak,aj,H,_,U⟩:=WT I.closed J.ow.org I.bf I.lk τ aa ab s.cfg.wait.toNat (Int.self_le_toNat _) ac ae a3 ag s1 s3 d N.ow.org G;obtain⟨ah,ai⟩:=VN H U O.ow;refine⟨aj,H.queue, ?_,λx l Y=> ?_,ah,ai⟩
 ·rw[<-Fs,A4];unfold RmS.heldL;rw[List.flatMap_eq_nil_iff];intro o _;cases ht:qm s3.strs o with
  | none=>rfl
  | some t=>simp only;rw[H.held o t ht];rfl
 ·have:=U x (O.ow.sub x l Y).1;unfold RmS.ln at this;rw[Y] at this;exact this
def CE (N:s.closed=ύ) (U:Y6 s) (O:0<=x/\x<6) (G:je k=ό) (h:(s.want x k).2≠0):zh s x<0:=by
 unfold RmS.want at h;rw[ώ (by rw[N];decide),ώ (by simp[O,G])] at h;unfold zh;split at h
 ·rename_i d;cases hu:qm s.tab.u x with
  | none=>decide
  | some sb=>rw[hu] at d;simp only[ϩ] at d;simp[d]
 ·rename_i d;exfalso;cases hu:qm s.tab.u x with
  | none=>rw[hu] at d;exact d rfl
  | some sb=>
   rw[hu] at d;have J:sb.2.1=ό:=by simpa using d
   obtain⟨l,H,I,Y⟩:=U.act x sb hu J;rw[H] at h;apply h;show (jA l k).2=0;unfold jA;rw[ώ (by rw[G];decide),ώ (by rw[I];decide)]
structure SwI (c:CfR) (n:Nat) (s:RmS):Prop where
 ok:qT n s
 dr:gI c s
 ti:TbI s.tab
 tu:TbU s.tab
def SwI.start (h:yb c=ό):SwI c 0 (uL c):=⟨Pn h,gI.start h,(λo v h=>by cases h),(λp h=>by cases h)⟩
def SwI.act (h:SwI c n s) (J:(s.tab.u.map Prod.fst).Nodup) (a:A22) (G:Byt a.b) (H:a.b.length<=400) (I: ∀v∈[a.s0,a.s1,a.s2],0<=v/\v<=4294967295) (d:a.act≠8):SwI c (n+1) (doR s a).1:=
 ⟨Cg h.ok J a G H I,h.dr.act a d,h.ti.act a,h.tu.act a⟩
def SwI.up (h:SwI c n s):SwI c (n+1) s:=⟨h.ok.up,h.dr,h.ti,h.tu⟩
def Wj (h:SwI c n s) (av:0<=x/\x<6) (am:(s.want x k).2=0) (af:U16 sq):
  ∃src,qm s.tab.s (zh s x,k)=ϊ src/\U32 src/\((s.want x k).1.arrive (pkB (kfP sq src))).2=0/\qT (n+2) ((s.want x k).1.arrive (pkB (kfP sq src))).1/\gI c ((s.want x k).1.arrive (pkB (kfP sq src))).1/\ZU x k (zh s x,k) (pkB (kfP sq src)) src ((s.want x k).1.arrive (pkB (kfP sq src))).1:=by
 obtain⟨l,aq,ar,ae,O,au,U,I⟩:=Hk h.dr.closed h.ok.tb am;have al: ∃d,qm s.tab.u x=ϊ d/\d.2.1=ό/\zh s x=d.2.2:=by
  rw[mem_prR] at I;obtain⟨_,d,H,G⟩:=I;refine⟨d,H, ?_, ?_⟩
  ·unfold jH at G;cases q:d.2.1 with
   | true=>rfl
   | false=>rw[q] at G;simp at G
  ·unfold jH at G;unfold zh;rw[H];cases q:d.2.1 with
   | true=>simp[q]
   | false=>rw[q] at G;simp at G
 obtain⟨d,H,ag,G⟩:=al;have J:=h.ok.tb.pub x d H ag;rw[<-G] at J;have ah:k=0∨k=1∨k=2:=by
  unfold je at U;have:=Ϛ U;omega
 obtain⟨aj,ak⟩:=h.tu _ J;obtain⟨src,N⟩: ∃src,qm s.tab.s (zh s x,k)=ϊ src:=by
  rcases ah with rfl | rfl | rfl
  ·exact Ϟ.1 J
  ·exact Ϟ.1 aj
  ·exact Ϟ.1 ak
 have Y:U32 src:=h.ok.tb.src _ _ N;have an:qT (n+1) (s.want x k).1:=h.ok.want x k;have ab:gI c (s.want x k).1:=h.dr.act ⟨6,x,0,k,[],(0,0),ύ,0,0,0,0,0,0⟩ (show (6:Int)≠8 by decide);have ai:=Gy af Y;obtain⟨ac,ad,a3,a4,a5⟩:=Az ab.closed (pkB (kfP sq src));have aa:qT (n+2) ((s.want x k).1.arrive (pkB (kfP sq src))).1:=an.arrive (UT ai) (by have ao:=Xw (kfP sq src);have ap:=((jZ _).1 (uZ sq src)).2.2.2.2;rw[<-ao] at ap;omega);refine⟨src,N,Y,ac,aa,ab.act ⟨0,0,0,0,pkB (kfP sq src),(0,0),ύ,0,0,0,0,0,0⟩ (show (0:Int)≠8 by decide),ad,⟨_,aa⟩,a3,by rw[a4];exact ae, ?_, ?_⟩
 ·rw[a5,O];exact I
 ·rw[a5,O];exact h.ti _ _ N
def Wl {s1 s3:RmS} (H:qT n s) (ad:gI c s) {src:Int} (af:ZU x k o (pkB (kfP sq src)) src s) (Y:U16 sq) (aa:U32 src) (ae:o.2=k) (M:List Og)
  (d:s.picks ό (zi s.workers M s.cfg.room.toNat)=s1) (G:(s1.tickN s.cfg.wait.toNat).picks ό (zi s.workers M (4* s.cfg.room.toNat+9* s.cfg.hold.toNat))=s3):
  ∃num P,s3.pks=P++[⟨o,num,kfP sq src⟩]/\ ∃l v,qm s3.lanes x=ϊ l/\qm s3.book (x,(P.length:Int))=ϊ v/\l.tgt=k/\(v=2∨v=3∨v=6∨v=1/\l.cur=k):=by
 obtain⟨_,_,_,_,ac,_⟩:=JZ H ad M d G;obtain⟨I,N,O,a3⟩:=wj s.workers M s.cfg.room.toNat;obtain⟨J,ah,U,ai⟩:=wj s.workers M (4* s.cfg.room.toNat+9* s.cfg.hold.toNat);have aj:=H.num.fit;have ag:((0,0):Og)∈s.workers:=by unfold RmS.workers yO;simp
 refine Wm af Y aa ae τ I J N (λL ab=>a3 L ab _ ag) s.cfg.wait.toNat s3 ?_ ac;rw[O,U,d];exact G
section
variable {w00 w0 w w':World} {R:Nat} {s:RmS} {F Fn:List Nat}
def RmR.based (h:RmR w0 w R s F) (m:qh w00 w0) (H: ∀b∈Fn,w00.heap.size<=b/\b<w0.heap.size):RmR w00 w R s (Fn++F):=by
 obtain⟨k,rfl,T,vp,N,h⟩:=h;refine⟨k,rfl,T,vp,N,h.all,λb H=>ϙ m.size (h.ge b H),λb J=> ?_,m.trans h.more⟩;rcases ϥ.1 J with e | e
 ·obtain⟨d,G⟩:=H b e;refine⟨?_,d,ϗ G h.more.size⟩;refine Q8 λc=> ?_
  have:=h.ge b c;omega
 ·obtain⟨d,G,I⟩:=h.law b e;exact⟨d,ϙ m.size G,I⟩
def RmR.mut (h:RmR w0 w R s F) (a:qk (λb=>b∈F) w w'):RmR w0 w' R s F:=by
 obtain⟨k,rfl,T,vp,d,h⟩:=h;exact⟨k,rfl,T,vp,d,h.mut a⟩
def RmR.mutA (h:RmR w0 w R s F) (a:qk (λb=>b∈F) w w') (H: ∀b∈Fn,b∈F∨w.heap.size<=b/\b<w'.heap.size):RmR w0 w' R s (Fn++F):=by
 obtain⟨k,rfl,T,vp,I,h⟩:=h;have d:=h.mut a;refine⟨k,rfl,T,vp,I,d.all,d.ge,λb G=> ?_,d.more⟩;rcases ϥ.1 G with e | e
 ·rcases H b e with f | f
  ·exact d.law b f
  ·exact⟨h.fresh b f.1,ϙ h.more.size f.1,f.2⟩
 ·exact d.law b e
end
structure j5 (w:World) (W B:Nat) (jo pu:Int->Int) (sf:Og->Option Int):Prop where
 ex: ∃cs L,w.heap[W]? =ϊ (.cells cs 49 (0,0))/\cs.size=91/\cs[90]? =ϊ (.map (ϊ B))/\(∀k:Nat,k<6->cs[k* 14+8]? =ϊ (.int .u32 (jo k))/\cs[84+k]? =ϊ (.int .i64 (pu k)))/\jm w B kO (Value.int .u32) L/\(∀o,qm L o=sf o)
 ne:W≠B
section
variable {w w':World} {W B:Nat} {jo pu:Int->Int} {sf:Og->Option Int}
def j5.away {S:Nat->Prop} (h:j5 w W B jo pu sf) (m:qk S w w') (G: ¬S W) (H: ¬S B):j5 w' W B jo pu sf:=by
 obtain⟨⟨cs,L,a,b,c,d,e,f⟩,g⟩:=h;exact⟨⟨cs,L,by rw[m.block W (qq a) G];exact a,b,c,d,e.away m H,f⟩,g⟩
def j5.more (h:j5 w W B jo pu sf) (m:qh w w'):j5 w' W B jo pu sf:=h.away (qk.of_more (S:=λ_=>False) m) (λx=>x) (λx=>x)
def j5.pub (h:j5 w W B jo pu sf) (k:Nat) (G:k<6):w.cell? ⟨W,84+k,ϋ⟩=ϊ (ι (pu k))/\w.frozen? ⟨W,84+k,ϋ⟩=ύ:=by
 obtain⟨⟨cs,L,a,b,c,d,e,f⟩,g⟩:=h;exact⟨qi a _ (d k G).2,ql a _⟩
def j5.setPub (h:j5 w W B jo pu sf) (k:Nat) (J:k<6) (v:Int):j5 (w.setCell ⟨W,84+k,ϋ⟩ (ι v)) W B jo (λx=>if x=k then v else pu x) sf:=by
 obtain⟨⟨cs,L,a,b,c,d,e,f⟩,g⟩:=h;refine⟨⟨_,L,qt a (84+k) _, ?_, ?_,λj I=> ?_,e.away ((qk.refl (λb=>b=W) w).set rfl _) (λx=>g x.symm),f⟩,g⟩
 ·rw[Array.size_setIfInBounds];exact b
 ·rw[D3 τ];exact c
 ·obtain⟨G,H⟩:=d j I;refine⟨by rw[D3 τ];exact G, ?_⟩;by_cases q:j=k
  ·subst q;rw[ϒ rfl,P1,ϒ rfl,ϒ τ]
  ·rw[D3 τ,ώ τ];exact H
def HV (cur d:List Value) (o i:Nat) (h:o+d.length<=cur.length):(xp cur o d)[i]? =if i<o then cur[i]? else if i<o+d.length then d[i-o]? else cur[i]? :=by
 unfold xp;have G:(cur.take o).length=o:=by rw[ϛ];omega
 by_cases h1:i<o
 ·rw[ϒ h1,Ϫ,ϻ τ,J4 h1]
 ·rw[ώ h1];by_cases h2:i<o+d.length
  ·rw[ϒ h2,ϻ (by rw[Ϗ];omega),ϯ τ,G]
  ·rw[ώ h2,ϯ (by rw[Ϗ];omega),Ϗ,G,D4]
   congr 1
   omega
def j5.join {cs:Array Value} {L:List (Og×Int)} (a:w.heap[W]? =ϊ (.cells cs 49 (0,0))) (b:cs.size=91) (c:cs[90]? =ϊ (.map (ϊ B))) (I: ∀k:Nat,k<6->cs[k* 14+8]? =ϊ (ω (jo k))/\cs[84+k]? =ϊ (ι (pu k)))
  (e:jm w B kO (Value.int .u32) L) (f: ∀o,qm L o=sf o) (g:W≠B) (k:Nat) (Y:k<6) (d:List Value) (O:d.length=14) {o:Int} (U:d[8]? =ϊ (ω o)):
  j5 (w.setRow W (xp cs.toList (k* 14) d).toArray) W B (λx=>if x=k then o else jo x) pu sf:=by
 have aa:cs.toList.length=91:=b;have G: ∀i:Nat,(xp cs.toList (k* 14) d).toArray[i]? =if i<k* 14 then cs[i]? else if i<k* 14+14 then d[i-k* 14]? else cs[i]? :=λi=>by
  rw[A6,HV _ _ _ _ τ,O,Array.getElem?_toList]
 refine⟨⟨_,L,jG a _, ?_, ?_,λj N=> ?_,e.away (qk.setRow w W _) (λx=>g x.symm),f⟩,g⟩
 ·show (xp cs.toList (k* 14) d).length=91;unfold xp;simp only[Ϗ,ϛ,Ϡ];omega
 ·rw[G,ώ τ,ώ τ];exact c
 ·obtain⟨H,J⟩:=I j N;refine⟨?_,by rw[G,ώ τ,ώ τ];exact J⟩;rw[G];by_cases q:j=k
  ·subst q;rw[ώ τ,ϒ τ,ϒ rfl,show j* 14+8-j* 14=8 by omega];exact U
  ·rw[ώ (show ¬(j:Int)=(k:Int) by omega)];split
   ·exact H
   ·rw[ώ τ];exact H
end
def Il (w:World):Calls prog 11 #[] w λe w'=> ∃W B,e= .returned (γ W)/\(w.heap.size<=W/\W<w'.heap.size)/\(w.heap.size<=B/\B<w'.heap.size)/\j5 w' W B (λ_=>0) (λ_=> -1) (λ_=>ϋ)/\qh w w':=by
 have aa:= @run_makeMap prog
 go_enter func11,ntmps11
 go_wp2
 go_loopw [6] (λi O=> ∃y:Nat,y<=6/\i= ι y/\j5 O (w.heap.size+1) w.heap.size (λ_=>0) (λk=>if k<y then -1 else 0) (λ_=>ϋ)/\qh w O) (λi _=>6-(intOf i).toNat)
 case atStart=>
  refine⟨0,τ,rfl,⟨⟨_,[],qH η,rfl,rfl,λk G=> ?_,(jm.made w _ _).more Z0,λ_=>rfl⟩,τ⟩,Z0.al _⟩;have:k=0∨k=1∨k=2∨k=3∨k=4∨k=5:=by omega
  rcases this with rfl | rfl | rfl | rfl | rfl | rfl<;>exact⟨rfl,rfl⟩
 case round=>
  obtain⟨y,ab,rfl,J,N⟩:=hrel;have d:=κ J;have H:=κ N;clear J N;by_cases hlt:y<6
  ·have Y:(y:Int)<6:=by omega
   obtain⟨c,f⟩:=d.o.pub y hlt;go_wp2;go_roundw
   case rel=>
    refine⟨y+1,τ,by go_num, ?_,H.o.st η _⟩;have e:(λk:Int=>if k<((y+1:Nat):Int) then (-1:Int) else 0)=λx=>if x=(y:Int) then -1 else if x<(y:Int) then -1 else 0:=by
     funext k
     by_cases q:k=(y:Int)
     ·rw[ϒ q,ϒ τ]
     ·rw[ώ q];by_cases q2:k<(y:Int)
      ·rw[ϒ q2,ϒ τ]
      ·rw[ώ q2,ώ τ]
    rw[e];exact d.o.setPub y hlt (-1)
   case measure=>simp[intOf];omega
  ·obtain rfl:y=6:=by omega
   have Y: ¬((6:Nat):Int)<6:=by omega
   go_wp2;go_ret;have U:w.heap.size+1<wr.heap.size:=by
    obtain⟨cs,L,a,_⟩:=d.o.ex;exact qq a
   refine⟨w.heap.size+1,rfl,⟨τ,U⟩,w.heap.size,⟨τ,τ⟩,⟨?_,τ⟩,H.o⟩;obtain⟨cs,L,a,b,c,I,e,f⟩:=d.o.ex;refine⟨cs,L,a,b,c,λk G=>⟨(I k G).1, ?_⟩,e,f⟩;rw[(I k G).2,ϒ τ]
def j5.congr {H pu':Int->Int} {sf':Og->Option Int} (h:j5 w W B G H sf) (J: ∀k:Nat,k<6->pu' k=H k) (N: ∀o,sf' o=sf o):j5 w W B G pu' sf':=by
 obtain⟨⟨cs,L,a,b,c,I,e,f⟩,g⟩:=h;exact⟨⟨cs,L,a,b,c,λk d=>by rw[J k d];exact I k d,e,λo=>(f o).trans (N o).symm⟩,g⟩
def j5.stay {d:Int->Int} (h:j5 w W B d G sf) (t:qA F w w') (N:W∈F) (O:B∈F):j5 w' W B d G sf:=by
 obtain⟨⟨cs,L,a,b,c,I,e,f⟩,g⟩:=h;obtain⟨⟨J,H,U,r⟩,Y⟩:=e;exact⟨⟨cs,L,(t.2 W N).trans a,b,c,I,⟨⟨J,H,(t.2 B O).trans U,r⟩,Y⟩,f⟩,g⟩
def PD (sf:Og->Option Int) (p:Int) (v:List Int):Nat->Og->Option Int
 | 0,o=>sf o
 | y+1,o=>if o=(p,(y:Int)) then ϊ (v.getD y 0) else PD sf p v y o
def XQ (pu:Int->Int) (s:RmS) (y:Nat):Int->Int:=λx=>if 0<=x/\x<y/\(s.ln x).gone=ό then -1 else pu x
def WQ (d:Int->Int) (s:RmS) (y:Nat):XQ d s (y+1)=λx=>if x=(y:Int) then (if (s.ln (y:Int)).gone=ό then -1 else d x) else XQ d s y x:=by
 funext x
 unfold XQ;by_cases e:x=(y:Int)
 ·subst e;rw[ϒ rfl];by_cases g:(s.ln (y:Int)).gone=ό
  ·rw[ϒ g,ϒ ⟨τ,τ,g⟩]
  ·rw[ώ g,ώ (λc=>g c.2.2)]
 ·rw[ώ e];by_cases g:0<=x/\x<(y:Int)/\(s.ln x).gone=ό
  ·rw[ϒ g,ϒ ⟨g.1,τ,g.2.2⟩]
  ·rw[ώ g,ώ (λc=>g ⟨c.1,τ,c.2.2⟩)]
def Qd (pu:Int->Int) (a:A22) (e:Int):Int->Int:=λx=>if e=0/\a.act=5/\x=a.sub then a.pub else if e=0/\a.act=7/\x=a.sub then -1 else pu x
def Fi {g t:Nat} (h:w.heap[g]? =ϊ (.cells cs.toArray t (0,0))) (o n:Nat):w.rangeAt g o ((cs.drop o).take n):=λj v d=>by
 have:=jQ h (o+j) v (by
  rw[A8] at d;split at d
  ·rwa [D4] at d
  ·cases d)
 rwa [E9] at this
def Oz {H:World} (h:RmR H w R s F) (x:Int) {g:Bool} (G:(s.ln x).gone=g):Calls prog 24 #[γ R,ι x] w λe w'=>
  ∃c1 c2 a b c t,e= .returned (.tuple #[θ #[ι c1,ι c2],θ #[ι a,ι b,ι c],g,t])/\qh w w':=
 (LG h x rfl rfl).mono λe w' d=>⟨_,_,_,_,_,_,by rw[<-G];exact d.1,d.2⟩
def Ou {bk:World} {Y O:Int->Int} (h:RmR bk w R s F) (bc:W∈F) (bb:B∈F) (bd:j5 w W B Y O sf) (x:A22) (ab:Option Addr) (aa:Nat) (e:Int) (aM:e=0->4<=x.act->x.act<=7->0<=x.sub/\x.sub<6):
  Calls prog 13 #[γ W,γ R,θ #[ι x.act,ι x.sub,ι x.pub,ι x.layer,δ ab x.b.length aa,ι x.w.1,ι x.w.2,x.acc,ω x.own,ω x.stamp,φ x.seq,ω x.s0,ω x.s1,ω x.s2],ι e] w λbw w'=>bw= .returned (.tuple #[])/\j5 w' W B (kG Y x e) (wM O x e s) (vm sf x e)/\RmR bk w' R s F/\qk (λb=>b=W∨b=B) w w':=by
 obtain⟨act,sub,pub,G,d,⟨H,I⟩,acc,own,st,sq,s0,s1,s2⟩:=x
 dsimp only at aM ⊢
 have bF:=h.lt W bc;have bE:=h.lt B bb;have av:=qh.alloc w (.cells #[ι act,ι sub,ι pub,ι G,δ ab d.length aa,ι H,ι I,acc,ω own,ω st,φ sq,ω s0,ω s1,ω s2] 42);have aJ:=qp w (.cells #[ι act,ι sub,ι pub,ι G,δ ab d.length aa,ι H,ι I,acc,ω own,ω st,φ sq,ω s0,ω s1,ω s2] 42);obtain⟨w1,bg⟩:=ν (w.alloc (.cells #[ι act,ι sub,ι pub,ι G,δ ab d.length aa,ι H,ι I,acc,ω own,ω st,φ sq,ω s0,ω s1,ω s2] 42));rw[bg] at av aJ;have bp:=κ (h.on av);have ag:=κ (bd.more av);have ae:=κ aJ;have bv:=κ av;have aU:=κ aM;clear h bd av aJ aM;have bC:=β0 ae.o;have bD:=β1 ae.o;have aA:=κ (show w.heap.size≠W/\w.heap.size≠B by omega)
 go_enter func13,ntmps13
 go_upto_region 1 with ((try rw[bg]);fail)
 obtain⟨q,be⟩:=ν (decide (e=0/\4<=act/\act<=7));have af:=κ be;clear be
 go_cut [26] from 15 to 26 (λv ac=>v= μ q/\w1=ac)
 case first=>
  by_cases c0:e=0
  ·subst c0;by_cases c4:(4:Int)<=act
   ·by_cases aB:act<=7
    ·go_wp2;go_meet;exact⟨by rw[<-af.o];simp[c4,aB],rfl⟩
    ·go_wp2;go_meet;exact⟨by rw[<-af.o];simp[c4,aB],rfl⟩
   ·go_wp2;go_meet;exact⟨by rw[<-af.o];simp[show ¬(4:Int)<=act by omega],rfl⟩
  ·go_wp2;go_meet;exact⟨by rw[<-af.o];simp[c0],rfl⟩
 case rest=>
 obtain⟨rfl,rfl⟩:=hcut
 go_upto_if 26 with fail
 go_cut [] from 27 to 55 (λac=>j5 ac W B (kG Y ⟨act,sub,pub,G,d,(H,I),acc,own,st,sq,s0,s1,s2⟩ e) (Qd O ⟨act,sub,pub,G,d,(H,I),acc,own,st,sq,s0,s1,s2⟩ e) sf/\qk (λb=>b=W∨b=B) w1 ac)
 case first=>
  cases q
  case true=>
   obtain⟨rfl,c4,aB⟩:=Ϛ af.o;obtain⟨bh,bA⟩:=aU.o rfl c4 aB;obtain⟨k,aC⟩:=Θ bh;have au:k<6:=by omega
   subst aC;have aW: ∀y:qu w1,y.w'.cell? ⟨w.heap.size,0,ϋ⟩=ϊ (ι act):=λy=>qi (qj y.h ae.o) 0 rfl
   have aX: ∀y:qu w1,y.w'.cell? ⟨w.heap.size,1,ϋ⟩=ϊ (ι (k:Int)):=λy=>qi (qj y.h ae.o) 1 rfl
   have bB: ∀y:qu w1,y.w'.cell? ⟨w.heap.size,2,ϋ⟩=ϊ (ι pub):=λy=>qi (qj y.h ae.o) 2 rfl
   clear bh bA;by_cases a4:act=4
   ·subst a4;obtain⟨⟨cs,L,am,an,ao,aw,ax,ay⟩,ap⟩:=ag.o;have aI:=κ am;clear am
    go_wp2_with fail
    refine Qn w1 7 8 [4,5,7] ?_
    refine Qq3 ?_
    refine jg rfl rfl (qo ρ) 42 (.tmp 6) rfl w.heap.size 0 rfl [ι 4,ι (k:Int),ι pub,ι G,δ ab d.length aa,ι H,ι I,acc,ω own,ω st,φ sq,ω s0,ω s1,ω s2] _ (λw' bx=>by obtain⟨y,rfl⟩:=bx;exact jQ (qj y.h ae.o)) underlying42 rfl ξ ?_;intro K J
    go_big_quiet_on
    (refine Ql ?_;intro K J)
    refine⟨qo ρ,J _ _ ?_⟩;clear J K
    (refine Ql ?_;intro K J)
    refine⟨qo ρ,J _ _ ?_⟩;clear J K
    refine Qq1 ?_
    refine yk rfl rfl ζ ?_;intro K J;refine zt 42 (.tmp 37) (.tmp 34) rfl W (k* 14) 49 cs [ι 4,ι (k:Int),ι pub,ι G,δ ab d.length aa,ι H,ι I,acc,ω own,ω st,φ sq,ω s0,ω s1,ω s2] rfl rfl (qr aI.o 1) (by simp[an];omega) ξ Z5 ⟨trivial,J _ _ ?_⟩;refine qD ?_;have ad:=j5.join (w:=w1.drewN 1) (qr aI.o 1) an ao aw (ax.more (qh.drewN w1 1)) ay ap k au [ι 4,ι (k:Int),ι pub,ι G,δ ab d.length aa,ι H,ι I,acc,ω own,ω st,φ sq,ω s0,ω s1,ω s2] rfl rfl;have N:=κ ad;have bm:Hid (qk (λb=>b=W∨b=B) w1 ((w1.drewN 1).setRow W (xp cs.toList (k* 14) [ι 4,ι (k:Int),ι pub,ι G,δ ab d.length aa,ι H,ι I,acc,ω own,ω st,φ sq,ω s0,ω s1,ω s2]).toArray)):=κ ((qk.of_more (qh.drewN w1 1)).trans ((qk.setRow _ _ _).mono λb aq=>ϐ aq));clear ad;generalize (w1.drewN 1).setRow W (xp cs.toList (k* 14) [ι 4,ι (k:Int),ι pub,ι G,δ ab d.length aa,ι H,ι I,acc,ω own,ω st,φ sq,ω s0,ω s1,ω s2]).toArray=W2 at *;clear an ao aw ax ay ap aI
    go_wp2_with fail
    go_meet;exact⟨by delta kG Qd;simpa using N.o,bm.o⟩
   ·by_cases a5:act=5
    ·subst a5;have aE:=κ ((ag.o.more (qh.drewN w1 1)).pub k au);have N:=κ ((ag.o.more (qh.drewN w1 1)).setPub k au pub);clear a4
     go_wp2_with fail
     refine Qn w1 8 9 [5,6,8] ?_
     refine Qq5 ?_
     (refine Ql ?_;intro K J)
     refine⟨qo ρ,J _ _ ?_⟩;clear J K
     (refine Ql ?_;intro K J)
     refine⟨qo ρ,J _ _ ?_⟩;clear J K
     refine Qq1 ?_
     obtain⟨c,f⟩:=aE.o
     (refine Qe ?_;intro K J)
     refine J _ _ ?_;clear J K;refine qD ?_
     go_wp2_with fail
     go_meet;exact⟨by delta kG Qd;simpa using N.o,(qk.of_more (qh.drewN w1 1)).set (ϐ rfl) _⟩
    ·by_cases a7:act=7
     ·subst a7;have aE:=κ ((ag.o.more (qh.drewN w1 1)).pub k au);have N:=κ ((ag.o.more (qh.drewN w1 1)).setPub k au (-1));clear a4 a5
      go_wp2_with fail
      refine Qn w1 6 7 [3,4,6] ?_
      refine Qq3 ?_
      (refine Ql ?_;intro K J)
      refine⟨qo ρ,J _ _ ?_⟩;clear J K
      (refine Ql ?_;intro K J)
      refine⟨qo ρ,J _ _ ?_⟩;clear J K
      refine Qq1 ?_
      obtain⟨c,f⟩:=aE.o
      (refine Qe ?_;intro K J)
      refine J _ _ ?_;clear J K;refine qD ?_
      go_wp2_with fail
      go_meet;exact⟨by delta kG Qd;simpa using N.o,(qk.of_more (qh.drewN w1 1)).set (ϐ rfl) _⟩
     ·go_wp2_with fail
      go_meet;exact⟨by delta kG Qd;simpa [a4,a5,a7] using ag.o,qk.refl _ _⟩
  case false=>
   have ak: ¬(e=0/\4<=act/\act<=7):=B9 af.o;have aZ:kG Y ⟨act,sub,pub,G,d,(H,I),acc,own,st,sq,s0,s1,s2⟩ e=Y:=by
    funext y
    exact ώ (λc=>ak ⟨c.2.1,by have:act=4:=c.1;omega,by have:act=4:=c.1;omega⟩)
   have ba:Qd O ⟨act,sub,pub,G,d,(H,I),acc,own,st,sq,s0,s1,s2⟩ e=O:=by
    funext y
    exact(ώ (λc=>ak ⟨c.1,by have:act=5:=c.2.1;omega,by have:act=5:=c.2.1;omega⟩)).trans (ώ (λc=>ak ⟨c.1,by have:act=7:=c.2.1;omega,by have:act=7:=c.2.1;omega⟩))
   have N:=κ (show j5 w1 W B (kG Y ⟨act,sub,pub,G,d,(H,I),acc,own,st,sq,s0,s1,s2⟩ e) (Qd O ⟨act,sub,pub,G,d,(H,I),acc,own,st,sq,s0,s1,s2⟩ e) sf/\qk (λb=>b=W∨b=B) w1 w1 from by rw[aZ,ba];exact⟨ag.o,qk.refl _ _⟩);clear ak aZ ba
   go_wp2_with fail
   go_meet;exact N.o
 case rest=>
 obtain⟨ar,U⟩:=hcut;have aG:=κ ar;have aD:=κ U;clear ar U;obtain⟨bj,bf⟩: ∃q,decide (e=0/\act=3)=q:=⟨_,rfl⟩;have ai:=κ bf;clear bf af aU;have az:=κ (aD.o.blk ae.o (λc=>c.elim aA.o.1 aA.o.2));have bo:=β0 az.o
 go_upto_region 9 with fail
 go_cut [62] from 56 to 62 (λv ac=>v= μ bj/\wc=ac)
 case first=>
  by_cases c0:e=0
  ·subst c0;by_cases c3:act=3
   ·subst c3;go_wp2;go_meet;exact⟨by rw[<-ai.o];rfl,rfl⟩
   ·go_wp2;go_meet;exact⟨by rw[<-ai.o];simp[c3],rfl⟩
  ·go_wp2;go_meet;exact⟨by rw[<-ai.o];simp[c0],rfl⟩
 case rest=>
 obtain⟨rfl,rfl⟩:=hcut
 go_upto_if 62 with fail
 go_cut [] from 63 to 78 (λac=>j5 ac W B (kG Y ⟨act,sub,pub,G,d,(H,I),acc,own,st,sq,s0,s1,s2⟩ e) (Qd O ⟨act,sub,pub,G,d,(H,I),acc,own,st,sq,s0,s1,s2⟩ e) (vm sf ⟨act,sub,pub,G,d,(H,I),acc,own,st,sq,s0,s1,s2⟩ e)/\qk (λb=>b=W∨b=B) wc ac)
 case first=>
  cases bj
  case true=>
   obtain⟨rfl,rfl⟩:=Ϛ ai.o
   go_wp2_with (refine wpList_load_mid rfl 40 (.tmp 63) rfl w.heap.size 11 rfl [ω s0,ω s1,ω s2] _ (Fi az.o 11 3) underlying40 rfl ξ ?_)
   go_loopw [65] (λi wr=> ∃y:Nat,y<=3/\i= ι y/\j5 wr W B (kG Y ⟨3,sub,pub,G,d,(H,I),acc,own,st,sq,s0,s1,s2⟩ 0) (Qd O ⟨3,sub,pub,G,d,(H,I),acc,own,st,sq,s0,s1,s2⟩ 0) (PD sf pub [s0,s1,s2] y)/\qk (λb=>b=W∨b=B) wc wr) (λi _=>3-(intOf i).toNat)
   case atStart=>exact⟨0,τ,rfl,aG.o,qk.refl _ _⟩
   case round=>
    obtain⟨y,bz,rfl,ad,U⟩:=hrel;have N:=κ ad;have ah:=κ U;clear ad U;by_cases hlt:y<3
    ·have aO:(y:Int)<3:=by omega
     have bG:=λw=>Hb s0 s1 s2 y hlt w
     have bs:Hid (PD sf pub [s0,s1,s2] (y+1)=λo=>if o=(pub,(y:Int)) then ϊ ([s0,s1,s2].getD y 0) else PD sf pub [s0,s1,s2] y o):=κ rfl;generalize [s0,s1,s2].getD y 0=v at *;obtain⟨⟨cs,L,am,an,ao,aw,ax,ay⟩,ap⟩:=N.o;have bn:=κ (ah.o.blk az.o (λc=>c.elim aA.o.1 aA.o.2));obtain⟨w9,aL,aj,aN,_⟩:=(ax.more (qh.drewN wr 1)).update Ji underlying47 (pub,(y:Int)) v;unfold kO at aL;simp only at aL;have aV:Hid (j5 w9 W B (kG Y ⟨3,sub,pub,G,d,(H,I),acc,own,st,sq,s0,s1,s2⟩ 0) (Qd O ⟨3,sub,pub,G,d,(H,I),acc,own,st,sq,s0,s1,s2⟩ 0) (PD sf pub [s0,s1,s2] (y+1))/\qk (λb=>b=W∨b=B) wr w9):=κ ⟨⟨⟨cs,_,aN.blk (qr am 1) ap,an,ao,aw,aj,λo=>by rw[bs.o,qE,ay]⟩,ap⟩,(qk.of_more (qh.drewN wr 1)).trans (aN.mono λb aq=>ϓ aq)⟩;have aW: ∀x:qu wr,x.w'.cell? ⟨W,90,ϋ⟩=ϊ (.map (ϊ B)):=λx=>qi (qj x.h am) 90 ao
     have aX:=λ(x:qu wr)=>β2 (qj x.h bn.o)
     clear aj aN am an ao aw ax ay ap
     go_wp2_with fail
     refine Qn wr 9 10 [9] ?_
     refine Qq9 ?_
     (refine Qe ?_;intro K J)
     refine J _ _ ?_;clear J K;refine qD ?_;clear aW aX aL;go_wp2;go_roundw
     case rel=>exact⟨y+1,τ,by go_num,aV.o.1,ah.o.trans aV.o.2⟩
     case measure=>simp[intOf];omega
    ·obtain rfl:y=3:=by omega
     have aO: ¬((3:Nat):Int)<3:=by omega
     have bt:=κ (N.o.congr (sf':=vm sf ⟨3,sub,pub,G,d,(H,I),acc,own,st,sq,s0,s1,s2⟩ 0) (λ_ _=>rfl) (λo=>by simp[vm,PD]))
     go_wp2_with fail
     go_meet;exact⟨bt.o,ah.o⟩
  case false=>
   have ak: ¬(e=0/\act=3):=B9 ai.o;have N:=κ (aG.o.congr (sf':=vm sf ⟨act,sub,pub,G,d,(H,I),acc,own,st,sq,s0,s1,s2⟩ e) (λ_ _=>rfl) (λo=>ώ ak))
   go_wp2_with fail
   go_meet;exact⟨N.o,qk.refl _ _⟩
 case rest=>
  obtain⟨ar,U⟩:=hcut;have aR:=κ ar;have aP:=κ (aD.o.trans U);clear ar U;have bq:Hid (∀k:Nat,k<6->wM O ⟨act,sub,pub,G,d,(H,I),acc,own,st,sq,s0,s1,s2⟩ e s k=XQ (Qd O ⟨act,sub,pub,G,d,(H,I),acc,own,st,sq,s0,s1,s2⟩ e) s 6 k):=κ λk aC=>by
   unfold wM XQ Qd;by_cases g:(s.ln (k:Int)).gone=ό
   ·rw[ϒ g,ϒ ⟨τ,τ,g⟩]
   ·rw[ώ g];exact(ώ (λc=>g c.2.2)).symm
  go_wp2_with fail
  go_loopw [79] (λi wr=> ∃y:Nat,y<=6/\i= ι y/\j5 wr W B (kG Y ⟨act,sub,pub,G,d,(H,I),acc,own,st,sq,s0,s1,s2⟩ e) (XQ (Qd O ⟨act,sub,pub,G,d,(H,I),acc,own,st,sq,s0,s1,s2⟩ e) s y) (vm sf ⟨act,sub,pub,G,d,(H,I),acc,own,st,sq,s0,s1,s2⟩ e)/\qk (λb=>b=W∨b=B) w1 wr) (λi _=>6-(intOf i).toNat)
  case atStart=>exact⟨0,τ,rfl,aR.o.congr (λk aC=>ώ τ) (λ_=>rfl),aP.o⟩
  case round=>
   clear aR aP aG aD az bo ai;obtain⟨y,bz,rfl,ad,U⟩:=hrel;have N:=κ ad;have ah:=κ U;have aT:=κ (bp.o.mut (U.mono λb aq=>aq.elim (λe=>e▸bc) λe=>e▸bb));clear ad U;by_cases hlt:y<6
   ·have aO:(y:Int)<6:=by omega
    have aF:=κ (WQ (Qd O ⟨act,sub,pub,G,d,(H,I),acc,own,st,sq,s0,s1,s2⟩ e) s y);obtain⟨g,aK⟩:=ν ((s.ln (y:Int)).gone);have aS:=κ (Oz aT.o (y:Int) aK);rw[aK] at aF;clear aK
    go_upto_region 19 with ((go_at_call 24;(go_call aS.o as e bl ⟨c1,c2,a,b,c,t,rfl,bi⟩;have aY:=κ bi;clear bi)))
    have aj:=aY.o.trans ((qh.alloc bl (.cells #[ι c1,ι c2] 103)).al (.cells #[ι a,ι b,ι c] 104));generalize (bl.alloc (.cells #[ι c1,ι c2] 103)).alloc (.cells #[ι a,ι b,ι c] 104)=W8 at *;have aH:=κ (N.o.more aj);have aQ:Hid (qk (λb=>b=W∨b=B) w1 W8):=κ (ah.o.trans (qk.of_more aj));clear aj aY aS;cases g with
    | false=>
     go_wp2;go_roundw
     case rel=>exact⟨y+1,τ,by go_num,by rw[aF.o];exact aH.o.congr (λk aC=>by by_cases e:(k:Int)=y<;>simp[e,XQ]) (λ_=>rfl),aQ.o⟩
     case measure=>simp[intOf];omega
    | true=>
     obtain⟨c,f⟩:=aH.o.pub y hlt;have br:=κ (aH.o.setPub y hlt (-1));go_wp2;go_roundw
     case rel=>exact⟨y+1,τ,by go_num,by rw[aF.o];simpa using br.o,aQ.o.set (ϐ rfl) _⟩
     case measure=>simp[intOf];omega
   ·obtain rfl:y=6:=by omega
    have aO: ¬((6:Nat):Int)<6:=by omega
    have bu:=κ (N.o.congr (pu':=wM O ⟨act,sub,pub,G,d,(H,I),acc,own,st,sq,s0,s1,s2⟩ e s) bq.o (λ_=>rfl));go_wp2
    (refine bodyPost_end (v:= .tuple #[]) ?re1 rfl ?_;(case re1=>simp[results,results13,go_sem]))
    exact⟨rfl,bu.o,aT.o,(qk.of_more bv.o).trans ah.o⟩
def IX {a:A22} (O:Y6 s) (h:(doR s a).2.1=0) (J:4<=a.act) (N:a.act<=7):0<=a.sub/\a.sub<6:=by
 have H:a.act=4∨a.act=5∨a.act=6∨a.act=7:=by omega
 by_cases hx:0<=a.sub/\a.sub<6
 ·exact hx
 ·exfalso;have G: ¬(1:Int)=0:=by decide
  rcases H with e | e | e | e
  ·have d:doR s a=((s.join a.sub a.own a.seq a.stamp).1,(s.join a.sub a.own a.seq a.stamp).2,ύ):=by unfold doR;simp[e]
   rw[d] at h;unfold RmS.join zV at h;simp only[ώ hx,ώ G] at h;split at h<;>simp at h
  ·have d:doR s a=((s.subscribe a.sub a.pub a.layer).1,(s.subscribe a.sub a.pub a.layer).2,ύ):=by unfold doR;simp[e]
   rw[d] at h;unfold RmS.subscribe yI at h;have I: ¬((0<=a.sub/\a.sub<6)/\(0<=a.pub/\a.pub<3)):=λc=>hx c.1
   simp only[ώ I,ώ G] at h;split at h
   ·simp at h
   ·split at h
    ·simp at h
    ·split at h<;>simp at h
  ·have d:doR s a=((s.want a.sub a.layer).1,(s.want a.sub a.layer).2,ύ):=by unfold doR;simp[e]
   rw[d] at h;unfold RmS.want at h;rw[ϒ (c:=(decide (0<=a.sub/\a.sub<6)&&je a.layer)=ύ) (by simp[hx])] at h;split at h<;>simp at h
  ·have d:doR s a=((s.leave a.sub).1,(s.leave a.sub).2,ύ):=by unfold doR;simp[e]
   rw[d] at h;unfold RmS.leave zb at h;simp only[ώ hx,ώ G] at h;split at h<;>simp at h
def Ov {J:World} (x:A22) (h:RmR J w R (doR s x).1 F) (U:W∈F) (O:B∈F) (Y:j5 w W B G (zh s) sf) (d:qT n s) (ab:(s.tab.u.map Prod.fst).Nodup) (aa:qT (n+1) (doR s x).1) (I:Option Addr) (H:Nat):
  Calls prog 13 #[γ W,γ R,θ #[ι x.act,ι x.sub,ι x.pub,ι x.layer,δ I x.b.length H,ι x.w.1,ι x.w.2,x.acc,ω x.own,ω x.stamp,φ x.seq,ω x.s0,ω x.s1,ω x.s2],ι (doR s x).2.1] w λN w'=>N= .returned (.tuple #[])/\j5 w' W B (kG G x (doR s x).2.1) (zh (doR s x).1) (vm sf x (doR s x).2.1)/\RmR J w' R (doR s x).1 F/\qk (λb=>b=W∨b=B) w w':=by
 have e:=funext (ET d ab x aa);rw[<-e];exact Ou h U O Y x I H _ (λa b c=>IX d.tb a b c)
def OO (h:RmR I w R s F) (x id:Int) {f:Option Int} (H:qm s.book (x,id)=f): ∃B,w.cell? ⟨R,0,ϋ⟩=ϊ (π (ϊ ⟨B,0,ϋ⟩))/\
  Calls prog 20 #[θ #[γ B],ι x,ι id] w λe w'=>e= .returned (.tuple #[ι (f.getD 0),f.isSome])/\qh w w':=by
 obtain⟨B,b,d,G⟩:=h.bk;subst H;exact⟨B,d,L8 G x id⟩
def RU (h:RmR I w R s F) (H:qT n s):Calls prog 19 #[γ R] w λe w'=> ∃a b c d,e= .returned (θ #[ι a,ι b,ι c,ι d,ι (s.pks.length:Int)])/\qh w w':=
 (IR h rfl).mono λe w' G=>⟨_,_,_,_,by rw[<-H.num.acc];exact G.1,G.2⟩
def RM (a0 d G a3 a4:Int) (w:World):(Instr.field 78 (θ #[ι a0,ι d,ι G,ι a3,ι a4]) 4).run prog w= .ok (ι a4) w:=rfl
def Vz (n m:Int) (d:1<=n) (G:n<=m) (w:World):Calls prog 76 #[ι n,ι m] w λe w'=>e= .returned (μ ό)/\qh w w':=by
 go_enter func76,ntmps76
 go_wp2;go_ret;exact⟨rfl,qh.refl _⟩
def Lx (n a b x:Int) (d:1<=n/\n<=1000) (G:1<=a/\a<=8) (H:1<=b/\b<=8) (ae:n* (5* a+9* b)=x) (ad:0<=x/\x<=1000000) (w:World):Calls prog 63 #[ι n,ι a,ι b] w λe w'=>e= .returned (.tuple #[ι x,ι 0])/\qh w w':=by
 have O:=κ (λw=>Vz n 1000 d.1 d.2 w);have U:=κ (λw=>Vz a 8 G.1 G.2 w);have Y:=κ (λw=>Vz b 8 H.1 H.2 w);obtain⟨ag,ah⟩:=G;obtain⟨ai,aj⟩:=H;obtain⟨ak,al⟩:=ad;clear d
 go_enter func63,ntmps63
 go_wp2_with (first | (go_at_call 76;((with_reducible refine(O.o _).mono ?_);rintro e w1 ⟨rfl,I⟩;have aa:Hid (qh w w1):=κ I;clear I)) | (go_at_call 76;((with_reducible refine(U.o _).mono ?_);rintro e w2 ⟨rfl,J⟩;have ab:Hid (qh w w2):=κ (aa.o.trans J);clear J)) | (go_at_call 76;((with_reducible refine(Y.o _).mono ?_);rintro e af ⟨rfl,N⟩;have ac:Hid (qh w af):=κ (ab.o.trans N);clear N)))
 go_ret2
 exact⟨by simp[ae],ac.o⟩
def DO (k a b:Nat):(k:Int)* (5* (a:Int)+9* (b:Int))=((a* k:Nat):Int)+(((4* a+9* b)* k:Nat):Int):=by
 have h:k* (5* a+9* b)=a* k+(4* a+9* b)* k:=by
  rw[<-C9,X6]
  congr 1
  omega
 have e:(k:Int)* (5* (a:Int)+9* (b:Int))=((k* (5* a+9* b):Nat):Int):=by simp
 rw[e,h];simp
def FA {ao:World} {s1 s2 s3:RmS} {a b ab:Nat} (h:RmR ao w R s F) (aL:qT n s) (bL:n<=130) (am:c.room=a) (U:c.hold=b) (bj:c.wait=ab) (bx:yb c=ό) (bK:ab<=50) (v:Value) (M:List Og) (aA:SlP 2 RO w v M) (bc:M.length<=20)
  (aw:s.picks ό (zi s.workers M a)=s1) (aF:s1.tickN ab=s2) (aG:s2.picks ό (zi s.workers M (4* a+9* b))=s3) (J:s1.closed=ύ):
  Calls prog 22 #[γ R,θ #[ι c.room,ι c.hold,ι c.wait,ι c.space,ι c.retry,ι c.most],v] w λe w'=>e= .returned (μ ό)/\RmR ao w' R s3 F/\qA F w w':=by
 obtain⟨⟨aY,av⟩,⟨aZ,ba,-,-⟩,-,-⟩:=vN bx;rw[am] at aY av;rw[U] at aZ ba;obtain⟨bO,bJ,rfl,_⟩:=id aA;have bD:=Vg s;have bC:2<=s.workers.length:=by unfold RmS.workers yO;simp
 have aO:=vD s.workers M a;have aP:=vD s.workers M (4* a+9* b);have ap:=κ (ZA (h.on (qh.alloc w (.cells #[ι c.room,ι c.hold,ι c.wait,ι c.space,ι c.retry,ι c.most] 25))) a τ _ M (aA.keep Vf Z0) bc);have aq:=κ (λw2 (m:qh w w2)=>ZA (h.on m) (4* a+9* b) τ _ M (aA.keep Vf m) bc);have bb:((4* a+9* b:Nat):Int)=4* c.room+9* c.hold:=by rw[am,U];omega
 rw[<-am] at ap;simp only[bb] at aq;obtain⟨-,-,bE,p2,-⟩:=id (cfq c (qh.refl (w.alloc (.cells #[ι c.room,ι c.hold,ι c.wait,ι c.space,ι c.retry,ι c.most] 25))));have au:Hid (∀w2,qh (w.alloc (.cells #[ι c.room,ι c.hold,ι c.wait,ι c.space,ι c.retry,ι c.most] 25)) w2->_):=κ (λw2 m=>cfq c m);have aH:=DO (M.length+s.workers.length) a b;rw[<-aO,<-aP,<-am,<-U,Int.natCast_add] at aH;have bf:a* (M.length+s.workers.length)<=8* 40:=M2 τ τ;have bg:(4* a+9* b)* (M.length+s.workers.length)<=104* 40:=M2 τ τ;have bh:1* 2<=a* (M.length+s.workers.length):=M2 τ τ;have bi:1* 2<=(4* a+9* b)* (M.length+s.workers.length):=M2 τ τ;rw[<-aO] at bf bh;rw[<-aP] at bg bi;have ar:=κ (λw=>Lx ((M.length:Int)+(s.workers.length:Int)) c.room c.hold _ τ τ τ aH τ w);obtain⟨d,bd⟩: ∃P,zi s.workers M a=P:=⟨_,rfl⟩;obtain⟨I,be⟩: ∃P,zi s.workers M (4* a+9* b)=P:=⟨_,rfl⟩;rw[bd] at aw ap ar bf bh;rw[be] at aG aq ar bg bi;have bt:=κ aL;have aC:=κ (vB ό d aL);rw[aw] at aC;have aW:=κ (kS aC.o ab);rw[aF] at aW;have aB:=κ h;have bq:=κ aF;have br:=κ aG;have bp:=κ aw;have bu:=κ J;generalize (s.workers.length:Int)=lw at *;have aT:=κ bj;have bP:1<=c.room:=by omega
 have aQ:c.room<=8:=by omega
 have aR:1<=c.hold:=by omega
 have bQ:c.hold<=8:=by omega
 clear aO aP aH h aL aA aw aF aG bd be bb bD bC J am U bj aY av aZ ba
 go_enter func22,ntmps22
 go_wp2_with (first | (go_at_call 29;((with_reducible refine(ap.o).mono ?_);rintro e w2 ⟨⟨bR,rfl,aQ⟩,aN⟩;obtain⟨N,bM,rfl,bz,aI,bk⟩:=GH aQ τ;obtain⟨aX,z0,bH,bI,-⟩:=au.o _ aN;have aU:=κ bk;have ay:=κ aN;have ax:=κ aX;clear aN aX aQ bk)) | (go_at_call 29;((with_reducible refine(aq.o _ ax.o).mono ?_);rintro e bS ⟨⟨v3,rfl,aR⟩,an⟩;obtain⟨O,bN,rfl,bA,aJ,bl⟩:=GH aR τ;obtain⟨-,z3,z4,z5,-⟩:=au.o _ (ay.o.trans an);have aV:=κ bl;have aM:=κ (ax.o.trans an);have bm:=κ (ay.o.trans an);have az:=κ an;clear an aR bl)) | (go_at_call 63;(go_call ar.o _ as e w4 ⟨rfl,bn⟩;have aa:=κ bn;clear bn)))
 have aE:=κ (aB.o.adds (Fn:=[w.heap.size,N,O]) (aM.o.trans aa.o) (λb U=>by simp at U;have:=ax.o.size;have:=az.o.size;have:=aa.o.size;have:=ay.o.size;have e:=(World.size_alloc w (.cells #[ι c.room,ι c.hold,ι c.wait,ι c.space,ι c.retry,ι c.most] 25));omega));have aS:Hid (∀j (Y:j<d.length),w4.cell? ⟨N,j* 2,ϋ⟩=ϊ (ι d[j].1)/\w4.cell? ⟨N,j* 2+1,ϋ⟩=ϊ (ι d[j].2)):=κ (λj Y=>by rw[(az.o.trans aa.o).cells _ _ aI,(az.o.trans aa.o).cells _ _ aI];exact aU.o j Y);have bs:Hid (∀j (Y:j<I.length),w4.cell? ⟨O,j* 2,ϋ⟩=ϊ (ι I[j].1)/\w4.cell? ⟨O,j* 2+1,ϋ⟩=ϊ (ι I[j].2)):=κ (λj Y=>by rw[aa.o.cells _ _ aJ,aa.o.cells _ _ aJ];exact aV.o j Y);obtain⟨-,-,-,bo,-⟩:=au.o _ (bm.o.trans aa.o);have Z:=κ bo;have T0:=κ (aE.o.stay (qh.refl _));have bw:=κ (aB.o.stay (aM.o.trans aa.o));clear au ap aq ar aU aV ay ax aM bm az aa z0 bH bI z3 z4 z5 bo bE p2 bz aI bA aJ aB
 go_loopw [60] (λi af=> ∃j:Nat,j<=d.length/\i= ι j/\RmR ao af R (s.picks ό (d.take j)) ([w.heap.size,N,O]++F)/\qA ([w.heap.size,N,O]++F) w4 af) (λi _=>d.length-(intOf i).toNat)
 case atStart=>exact⟨0,τ,rfl,aE.o,T0.o⟩
 case round=>
  clear aE T0;obtain⟨j,Y,rfl,ad,J⟩:=hrel;have G:=κ ad;have H:=κ J;clear ad J;by_cases hlt:j<d.length
  ·have aK:(j:Int)<(d.length:Int):=by omega
   obtain⟨ak,c1⟩:=aS.o j hlt;rw[<-H.o.cell (b:=N) η] at ak c1;obtain⟨bF,ag⟩: ∃y,d[j].1=y:=⟨_,rfl⟩;obtain⟨bG,ah⟩: ∃y,d[j].2=y:=⟨_,rfl⟩;obtain⟨av,al⟩:=BU G.o H.o bt.o τ hlt ag ah;have aD:=κ al;rw[ag] at ak;rw[ah] at c1;clear al ag ah
   go_wp2_with ((go_at_call 31;(go_call aD.o as e w6 ⟨rfl,ac,ae⟩;have ai:=κ ac;have aj:=κ ae;clear ac ae)))
   go_roundw
   case rel=>exact⟨j+1,τ,by go_num,ai.o,aj.o⟩
   case measure=>simp[intOf];omega
  ·obtain rfl:j=d.length:=by omega
   have aK: ¬(d.length:Int)<(d.length:Int):=by omega
   rw[ϭ,bp.o] at G;rw[<-H.o.cell (b:=w.heap.size) η] at Z;have z:=Z.o;go_wp2
   go_loopw [70] (λi af=> ∃j:Nat,j<=ab/\i= ι j/\RmR ao af R (s1.tickN j) ([w.heap.size,N,O]++F)/\qA ([w.heap.size,N,O]++F) w4 af) (λi _=>ab-(intOf i).toNat)
   case atStart=>exact⟨0,τ,rfl,G.o,H.o⟩
   case round=>
    clear G H z Z aS Y;obtain⟨j,Y,rfl,ad,J⟩:=hrel;have G:=κ ad;have H:=κ J;clear ad J;by_cases hlt:j<ab
    ·have bB:(j:Int)<c.wait:=by have:=aT.o;omega
     have bv:=κ (Od G.o (kS aC.o j) τ (R5 (Zq j s1).symm (Jl (yP j bu.o).1).1))
     go_wp2_with ((go_at_call 34;(go_call bv.o as e w6 ⟨rfl,ac,ae⟩;have ai:=κ ac;have aj:=κ (H.o.trans ae);clear ac ae)))
     go_roundw
     case rel=>exact⟨j+1,τ,by go_num,ai.o,aj.o⟩
     case measure=>simp[intOf];omega
    ·obtain rfl:j=ab:=by omega
     have bB: ¬(j:Int)<c.wait:=by have:=aT.o;omega
     rw[bq.o] at G;go_wp2
     go_loopw [78] (λi af=> ∃j:Nat,j<=I.length/\i= ι j/\RmR ao af R (s2.picks ό (I.take j)) ([w.heap.size,N,O]++F)/\qA ([w.heap.size,N,O]++F) w4 af) (λi _=>I.length-(intOf i).toNat)
     case atStart=>exact⟨0,τ,rfl,G.o,H.o⟩
     case round=>
      clear G H;obtain⟨j,Y,rfl,ad,J⟩:=hrel;have G:=κ ad;have H:=κ J;clear ad J;by_cases hlt:j<I.length
      ·have aK:(j:Int)<(I.length:Int):=by omega
       obtain⟨ak,c1⟩:=bs.o j hlt;rw[<-H.o.cell (b:=O) η] at ak c1;obtain⟨bF,ag⟩: ∃y,I[j].1=y:=⟨_,rfl⟩;obtain⟨bG,ah⟩: ∃y,I[j].2=y:=⟨_,rfl⟩;obtain⟨av,al⟩:=BU G.o H.o aW.o τ hlt ag ah;have aD:=κ al;rw[ag] at ak;rw[ah] at c1;clear al ag ah
       go_wp2_with ((go_at_call 31;(go_call aD.o as e w6 ⟨rfl,ac,ae⟩;have ai:=κ ac;have aj:=κ ae;clear ac ae)))
       go_roundw
       case rel=>exact⟨j+1,τ,by go_num,ai.o,aj.o⟩
       case measure=>simp[intOf];omega
      ·obtain rfl:j=I.length:=by omega
       have aK: ¬(I.length:Int)<(I.length:Int):=by omega
       rw[ϭ,br.o] at G;go_wp2;go_ret;exact⟨rfl,G.o.sub (λb U=>ϔ _ U),bw.o.trans (H.o.sub (λb U=>ϔ _ U))⟩
def RP (n:Int) (c:UInt8):Int:=10* n+((c.toNat:Int)-48)
def ZR (l:List UInt8):Int:=l.foldl RP 0
def Gz (c:UInt8):Bool:=decide (48<=c.toNat)&&decide (c.toNat<=57)
def Yx (l:List UInt8) (i:Nat) (h:i<l.length):ZR (l.take (i+1))=10* ZR (l.take i)+((l[i].toNat:Int)-48):=by
 unfold ZR;rw[ϵ h,Δ];rfl
def Pm (l:List UInt8) (G: ∀c∈l,Gz c=ό): ∀i,i<=l.length->0<=ZR (l.take i)/\ZR (l.take i)<((10 ^ i:Nat):Int)
 | 0,_=>by simp[ZR]
 | i+1,h=>by
  obtain⟨H,I⟩:=Pm l G i τ;have d:=G _ (Ϣ (show i<l.length by omega));unfold Gz at d;rw[Φ] at d;have J:=Ϛ d.1;have N:=Ϛ d.2;rw[Yx l i τ,Nat.pow_succ];generalize 10 ^ i=p at *;omega
structure vi (wd:ByteArray) (most n:Int):Prop where
 pos:1<=wd.data.toList.length
 few:wd.data.toList.length<=9
 dig: ∀c∈wd.data.toList,Gz c=ό
 val:ZR wd.data.toList=n
 le:n<=most
def IV (s:ByteArray):s.size=s.data.toList.length:=rfl
def WJ {d:ByteArray} {ad n:Int} (h:vi d ad n) (w:World):
  Calls prog 214 #[.string d,ι ad] w λe w'=>e= .returned (ι n)/\qh w w':=by
 obtain⟨ak,am,J,ac,az⟩:=h;obtain⟨l,G⟩:=ν (d.data.toList);obtain⟨cap,W1,ao,aa,O⟩: ∃cap W1,(convert 9 35 (.string d)).run prog w= .ok (δ (ϊ ⟨w.heap.size,0,ϋ⟩) l.length cap) W1/\(∀i (hi:i<l.length),W1.cell? ⟨w.heap.size,i,ϋ⟩=ϊ (υ (l[i].toNat:Int)))/\qh w W1:=by
  subst G;refine⟨_,_,run_bytes_of_string w 9 35 5 d underlying9 underlying35 underlying5,λi hi=> ?_,(qh.drewN w 1).al _⟩;have e:=World.cell?_alloc_mark w.drew (bytesRow d (grownCap w d.size 0 5)) 5 ((bytesRow d (grownCap w d.size 0 5)).size,(bytesRow d (grownCap w d.size 0 5)).size+1) i;refine e.trans ?_;rw[bytesRow_at d _ i (by simpa using hi)];simp
 have af:=κ aa
 have ag:Hid (∀i (hi:i<l.length),(48:Int)<=l[i].toNat/\(l[i].toNat:Int)<=57):=κ (λi hi=>by
  subst G;have H:=J _ (Ϣ hi);unfold Gz at H;rw[Φ] at H;have ax:=Ϛ H.1;have ay:=Ϛ H.2
  omega)
 have ae:=κ (Pm l (by rw[<-G];exact J));have aj:=κ (Yx l);have ai:Hid (ZR (l.take l.length)=n):=κ (by rw[ϭ,<-G];exact ac);have aA:(d.size:Int)=(l.length:Int):=by rw[IV,G]
 rw[G] at ak am;have aB: ¬(l.length:Int)<1:=by omega
 have aC: ¬(9:Int)<(l.length:Int):=by omega
 have ah:=κ O;clear aa J ac G O
 go_enter func214,ntmps214
 go_wp2
 go_loopw [5,20] (λu N wr=> ∃i:Nat,i<=l.length/\N= ι i/\u= ι (ZR (l.take i))/\qh W1 wr) (λ_ N _=>l.length-(intOf N).toNat)
 case atStart=>exact⟨0,τ,rfl,rfl,qh.refl _⟩
 case round=>
  obtain⟨i,hi,rfl,rfl,ab⟩:=hrel;have I:=κ ab;clear ab ao;by_cases hlt:i<l.length
  ·have ap:(i:Int)<(l.length:Int):=by omega
   have au:wr.cell? ⟨w.heap.size,i,ϋ⟩=ϊ (υ (l[i].toNat:Int)):=by
    have e:=af.o i hlt;rw[I.o.cells _ _ (um e).2];exact e
   obtain⟨av,aw⟩:=ag.o i hlt;obtain⟨ar,U⟩:=ae.o i τ;have Y:10 ^ i<=10 ^ 9:=D5 ζ τ;have an:=aj.o i hlt;generalize ZR (l.take i)=q at *;generalize ((l[i].toNat:Nat):Int)=c at *;have aD: ¬c<48:=by omega
   have aE: ¬57<c:=by omega
   have aG:q<=1000000000:=by
    generalize 10 ^ i=p at U Y;omega
   have aF:IntKind.u8.wrap (c-48)=c-48:=IntWalk.u8_in _ τ;clear U Y;go_wp2;go_roundw
   case rel=>exact⟨i+1,τ,by go_num,by rw[an],I.o⟩
   case measure=>simp[intOf];omega
  ·obtain rfl:i=l.length:=by omega
   have ap: ¬(l.length:Int)<(l.length:Int):=by omega
   have aq:=ai.o;rw[aq];go_wp2;go_ret;exact⟨rfl,ah.o.trans I.o⟩
def RTx:qO ByteArray:=λ_ cs s=>cs=[.string s]
def IE:gj RTx:=λ_ _ _ _ _ h=>h
def UR (c:UInt8):Int:=if c=115 then 65535 else if c=116 then 20 else 999999999
def SlP.strs (h:SlP 1 RTx w (δ H n cap) L) (m:qh w w') (i:Nat) (hi:i<L.length): ∃b d,H=ϊ ⟨b,d,ϋ⟩/\w'.cell? ⟨b,d+i,ϋ⟩=ϊ (.string L[i]):=by
 obtain⟨aa,U,e,_,I,_⟩:=h;injection e with e1 e2 e3
 subst e1;obtain⟨b,d,cs,rfl,J,Y,N,O⟩:=I i hi;refine⟨b,d,rfl, ?_⟩;have G:=N 0 τ;rw[W4,I7] at G;rw[m.cells _ _ J,G,show cs=[.string L[i]] from O];rfl
structure Qm (fm:ByteArray) (ws:List ByteArray) (ns:List Int):Prop where
 len:ws.length=fm.data.toList.length
 few:ws.length<=100
 pos:0<ws.length
 same:ns.length=ws.length
 ok: ∀i (h:i<ws.length) (h1:i<fm.data.toList.length) (h2:i<ns.length),vi ws[i] (UR fm.data.toList[i]) ns[i]
def Ul {H:ByteArray} {d:List ByteArray} {G:List Int} (h:Qm H d G) (aC:Option Addr) (cap:Nat) (w:World) (aE:SlP 1 RTx w (δ aC d.length cap) d):
  Calls prog 160 #[.string H,δ aC d.length cap] w λe w'=>(∃g cap,e= .returned (δ (ϊ ⟨g,0,ϋ⟩) G.length cap)/\w.heap.size<=g/\g<w'.heap.size/\ ∀i y,G[i]? =ϊ y->w'.cell? ⟨g,i,ϋ⟩=ϊ (ι y))/\qh w w':=by
 obtain⟨aU,hi,aR,aS,aT⟩:=info_parts (P:=prog) (e:=3) (z:= ι 0) (size:=1) (bytes:=8) ξ;obtain⟨I,bc,be,aq,ar⟩:=h;have aJ:=κ aE;have aL:=κ ar;have bf:(H.size:Int)=(d.length:Int):=by rw[I];rfl
 have aF:Hid (∀i (hi:i<d.length) (I:i<H.data.toList.length) (wr:World),(Instr.index 9 (.string H) (ι (i:Int))).run prog wr= .ok (υ (H.data.toList[i].toNat:Int)) wr):=κ (λi hi I wr=>by
  rw[run_index_string wr 9 H .i64 (i:Int) underlying9,dif_pos ⟨τ,τ⟩]
  rfl)
 have aG:=κ I;have J:=κ aq;clear ar aE I aq
 go_enter func160,ntmps160
 go_wp2
 go_loopw [5,17] (λu ah wr=> ∃i:Nat,i<=d.length/\ah= ι i/\(∃aD aB an,u= δ aD aB an)/\wr.ownsRow w.heap.size 3 1 u (G.take i).length ((G.take i).map (Value.int .i64))/\qh w wr) (λ_ ah _=>d.length-(intOf ah).toNat)
 case atStart=>exact⟨0,τ,rfl,⟨_,_,_,rfl⟩,World.ownsRow_nil _ _ _ _,qh.refl _⟩
 case round=>
  obtain⟨i,bd,rfl,⟨aD,aB,an,rfl⟩,az,ay⟩:=hrel;have ak:=κ az;have Y:=κ ay;clear az ay;by_cases hlt:i<d.length
  ·have aO:(i:Int)<(d.length:Int):=by omega
   have aw:i<H.data.toList.length:=by have:=aG.o;omega
   have ax:i<G.length:=by have:=J.o;omega
   obtain⟨b,bj,rfl,aX⟩:=aJ.o.strs Y.o i hlt;have aA:=aF.o i hlt aw;have aa:=κ (WJ (aL.o i hlt aw ax));have aK:Hid (G.take (i+1)=G.take i++[G[i]]):=κ (ϵ ax);have bg:(G.take i).length<=100:=by rw[ϛ];omega
   obtain⟨c,U⟩:=ν (H.data.toList[i]);rw[U] at aA aa;obtain⟨m,ae⟩:=ν (UR c);rw[ae] at aa;generalize G[i]=y at *;generalize G.take i=fl at *;generalize d[i]=wd at *;clear U;obtain⟨q,ag⟩: ∃q:Int,((c.toNat:Nat):Int)=q:=⟨_,rfl⟩;rw[ag] at aA;have ao:c=115↔((c.toNat:Nat):Int)=115:=⟨λh=>by rw[h];rfl,λh=>UInt8.toNat_inj.1 (by show c.toNat=115;omega)⟩;have N:c=116↔((c.toNat:Nat):Int)=116:=⟨λh=>by rw[h];rfl,λh=>UInt8.toNat_inj.1 (by show c.toNat=116;omega)⟩;have aP:(q=115/\m=65535)∨(¬q=115/\q=116/\m=20)∨(¬q=115/\ ¬q=116/\m=999999999):=by
    rw[<-ae,<-ag];unfold UR;simp only[ao,N];by_cases q1:((c.toNat:Nat):Int)=115
    ·simp[q1]
    ·by_cases q2:((c.toNat:Nat):Int)=116<;>simp[q1,q2]
   clear ae ag ao N;rcases aP with ⟨rfl,rfl⟩ | ⟨aV,rfl,rfl⟩ | ⟨aV,n2,rfl⟩
   all_goals
    go_wp2_with (first | (go_at_call 214;(go_call aa.o _ as e w5 ⟨rfl,ai⟩;have ab:=κ (Y.o.trans ai);have am:=κ (jJ ak.o ai);clear ai)) | (at_builtin;(refine qR _ rfl (.tmp 29) (.tmp 33) 107 rfl w.heap.size 3 aU (ι 0) 8 underlying107 hi aR aS aT rfl _ .i64 fl rfl (am.o.alloc _) _ [y] rfl (SlI.lit .i64 w5 [y] 3 _ 1 _ η rfl η η) (by simp;omega) ζ (by have:=ab.o.size;simp;omega) ?_;intro bl w6 aj ap _;have aI:=κ aj;have aH:Hid (qh w w6):=κ (Below.grown (ab.o.al _) ap (ab.o.al _).size (λb ad=>j8 am.o ad));obtain⟨bh,aY,O⟩:=j7 aj;rw[show (fl++[y]).length=fl.length+1 from by simp] at O;subst O;clear aj ap)))
    go_roundw
    case rel=>exact⟨i+1,τ,by go_num,⟨_,_,_,rfl⟩,by rw[aK.o];exact aI.o,aH.o⟩
    case measure=>simp[intOf];omega
  ·obtain rfl:i=d.length:=by omega
   have aO: ¬(d.length:Int)<(d.length:Int):=by omega
   have aM:Hid (G.take d.length=G):=κ (by rw[<-J.o,ϭ]);go_wp2;go_ret;have af:=ak.o;rw[aM.o] at af;obtain⟨bi,aZ,e,_,U,_⟩:=SlI.of_owns af (by have:=J.o;omega);rcases id af.2 with ⟨_,bb⟩ | ⟨g,ba,cur,N,ad,aN,_⟩
   ·have:=J.o;omega
   ·rw[N] at e ⊢;injection e with e3 e4 e5
    subst e3 e5;refine⟨⟨g,⟨_,rfl⟩,ad,lt_of_block aN,λi y aQ=> ?_⟩,Y.o⟩;obtain⟨av,O⟩:=ϟ.1 aQ;obtain⟨aW,bk,ac,_,au⟩:=U i av;injection ac with ac
    injection ac with e8 e9 _
    subst e8 e9;rw[E9] at au;rw[au,<-O];simp[av]
def Pl (w00:World) (pb:Nat) (o:Option RmS) (F:List Nat) (w:World):Prop:=pb∈F/\(∀b∈F,w00.heap.size<=b/\b<w.heap.size)/\qh w00 w/\match o with
 | none=>w.heap[pb]? =ϊ (.cells #[.pointer ϋ] 214 (0,0))
 | some s=> ∃R,RmR w00 w R s F/\w.heap[pb]? =ϊ (.cells #[.pointer (ϊ ⟨R,0,ϋ⟩)] 214 (0,0))
def xl (pb:Nat) (F:List Nat) (w w':World):Prop:=w.heap.size<=w'.heap.size/\ ∀b∈F,b≠pb->w'.heap[b]? =w.heap[b]?
section
variable {w00 w w' w'':World} {pb:Nat} {o:Option RmS} {F F' Fn:List Nat}
def xl.refl:xl pb F w w:=⟨ϕ _,λ_ _ _=>rfl⟩
def xl.trans (h:xl pb F w w') (k:xl pb F w' w''):xl pb F w w'':=⟨ϙ h.1 k.1,λb d G=>(k.2 b d G).trans (h.2 b d G)⟩
def xl.sub (h:xl pb F w w') (H: ∀b∈F',b∈F):xl pb F' w w':=⟨h.1,λb d G=>h.2 b (H b d) G⟩
def xl.blk (h:xl pb F w w') {b:Nat} {x:Obj} (d:b∈F) (G:b≠pb) (k:w.heap[b]? =ϊ x):w'.heap[b]? =ϊ x:=by rw[h.2 b d G];exact k
def Pl.lt (h:Pl w00 pb o F w): ∀b∈F,b<w.heap.size:=λb d=>(h.2.1 b d).2
def Pl.mut (h:Pl w00 pb o F w) (a:qk (λb=>b∈F') w w') (J: ∀b∈F',b∈F) (I:pb∉F'):Pl w00 pb o F w':=by
 obtain⟨N,H,O,d⟩:=h;refine⟨N,λb G=>⟨(H b G).1,ϗ (H b G).2 a.size⟩,a.to_more O (λb G=>(H b (J b G)).1), ?_⟩;cases o with
 | none=>exact a.blk d I
 | some s=>exact d.elim λR d=>⟨R,d.1.mut (a.mono J),a.blk d.2 I⟩
def Pl.on (h:Pl w00 pb o F w) (m:qh w w'):Pl w00 pb o F w':=h.mut (F':=[]) (qk.of_more m) (λ_ d=>by cases d) (λd=>by cases d)
def Pl.stay (h:Pl w00 pb o F w) (m:qh w w'):xl pb F w w':=⟨m.size,λb d _=>m.block b (h.lt b d)⟩
def Pl.sub (h:Pl w00 pb o F w) (G: ∀b∈F',b∈F) (N:pb∈F'):Pl w00 pb o F' w:=by
 obtain⟨O,H,I,d⟩:=h;refine⟨N,λb J=>H b (G b J),I, ?_⟩;cases o with
 | none=>exact d
 | some s=>exact d.elim λR d=>⟨R,d.1.sub G,d.2⟩
def Pl.mutA (h:Pl w00 pb o F w) (a:qk (λb=>b∈F') w w') (O: ∀b∈F',b∈F) (N:pb∉F') (J: ∀b∈Fn,b∈F∨w.heap.size<=b/\b<w'.heap.size):Pl w00 pb o (Fn++F) w':=by
 obtain⟨U,d,I,G⟩:=h;have Y:=I.size;refine⟨ϔ _ U,λb H=> ?_,a.to_more I (λb H=>(d b (O b H)).1), ?_⟩
 ·rcases ϥ.1 H with e | e
  ·rcases J b e with f | f
   ·exact⟨(d b f).1,ϗ (d b f).2 a.size⟩
   ·exact⟨τ,f.2⟩
  ·exact⟨(d b e).1,ϗ (d b e).2 a.size⟩
 ·cases o with
  | none=>exact a.blk G N
  | some s=>exact G.elim λR G=>⟨R,G.1.mutA (a.mono O) J,a.blk G.2 N⟩
def Pl.adds (h:Pl w00 pb o F w) (m:qh w w') (G: ∀b∈Fn,w.heap.size<=b/\b<w'.heap.size):Pl w00 pb o (Fn++F) w':=h.mutA (F':=[]) (qk.of_more m) (λ_ d=>by cases d) (λd=>by cases d) (λb d=>ϓ (G b d))
end
def SlP.rest {b d:Nat} {x:ByteArray} (h:SlP 1 RTx w (δ (ϊ ⟨b,d,ϋ⟩) (L.length+1) cap) (x::L)):SlP 1 RTx w (δ (ϊ ⟨b,d+1,ϋ⟩) L.length (cap-1)) L:=by
 obtain⟨ae,ab,e,H,I,J,ac,ad⟩:=h;injection e with e1 e2 e3
 subst e1 e3;rw[Ϙ] at H J;refine⟨_,_,rfl,τ,λi hi=> ?_,τ,τ,λh=>by cases h⟩;obtain⟨aa,af,cs,e,N,Y,O,G⟩:=I (i+1) (by rw[Ϙ];omega);injection e with e
 injection e with e6 e7 _
 subst e6 e7;refine⟨b,d+1,cs,rfl,N,Y,λj U=> ?_,by rw[List.getElem_cons_succ] at G;exact G⟩;rw[<-O j U]
 congr 2
 omega
def uw (p:Addr) (w:World):
  CallsD prog 158 #[π (ϊ p)] .returning w λe H w'=>e= .returned (.tuple #[])/\H= .returning/\w'=w:=by
 refine callsD_of_wpS func158 rfl λd cs G=> ?_
 apply wpS_seq;apply wpS_region;simp[wpOpsS,go_sem,recoverD,G,ntmps158,Exit.thenS];apply wpS_seq;apply wpS_region;simp[wpOpsS,go_sem,Exit.thenS];refine wpS_cond (t:=ύ) (by simp[Act.eval,Array.replicate]) ?_;refine wpS_of_wp (wp_skip ?_);cases d
 simp_all [bodyPostS,results,results158,Exit.thenS]
def Bz (more:List UInt8):List UInt8:=if more=[] then [111,107] else [111,107,32]++more
def Pl.room {d:World} (h:Pl d pb (ϊ s) F w): ∃R,RmR d w R s F/\w.heap[pb]? =ϊ (.cells #[γ R] 214 (0,0)):=h.2.2.2
def vP {N:World} {b ar:Nat} {o aj:Option RmS} {ai aA:ByteArray} {more:List UInt8} {args:List ByteArray} {aq:List Int}
  (h:Pl N pb o F w) (ak:SlP 1 RTx w (δ (ϊ ⟨b,ar,ϋ⟩) (args.length+1) cap) (ai::args))
  (hF: ∀w,Calls prog 161 #[.string ai] w λe w'=>e= .returned (.string aA)/\w'=w) (ah:Qm aA args aq)
  (aZ:(ai.toList==([114,111,111,109]:List UInt8))=o.isNone) (aW:more.length<=1000)
  (aC: ∀(F:List Nat) (w:World) (g cap:Nat),Pl N pb o F w->g∈F->g≠pb->(∀i y,aq[i]? =ϊ y->w.cell? ⟨g,i,ϋ⟩=ϊ (ι y))->Calls prog 162 #[γ pb,.string ai,δ (ϊ ⟨g,0,ϋ⟩) aq.length cap] w λe w'=>e= .returned (.string ⟨more.toArray⟩)/\Pl N pb aj F w'/\xl pb F w w'):
  Calls prog 101 #[γ pb,δ (ϊ ⟨b,ar,ϋ⟩) (args.length+1) cap] w λe w'=>e= .returned (.string ⟨(Bz more).toArray⟩)/\Pl N pb aj F w'/\xl pb F w w':=by
 obtain⟨W1,ao⟩:=ν (w.alloc (.cells #[.string ⟨#[]⟩] 9));have ag:Hid (qh w W1):=κ (by rw[<-ao];exact qh.alloc _ _);have av:Hid (W1.heap[w.heap.size]? =ϊ (.cells #[.string ⟨#[]⟩] 9 (0,0))):=κ (by rw[<-ao];exact qp _ _);have ab:Hid (Pl N pb o ([w.heap.size]++F) W1):=κ (h.adds ag.o (λb G=>by simp at G;subst G;exact⟨ϕ _,qq av.o⟩));have ap:Hid (pb≠w.heap.size):=κ (λe=>by have:=h.lt pb h.1;omega);have ay:Hid (xl pb F w W1):=κ (h.stay ag.o);have aT:args.length+1<=cap:=by
  obtain⟨bd,aQ,e,_,_,aM,_⟩:=id ak;injection e with _ _ e3
  subst e3;exact aM
 have aY:=ah.pos;have aU:=ah.few;obtain⟨aP,bc,e0,am⟩:=ak.strs ag.o 0 η;injection e0 with e0
 injection e0 with e1 e2 _
 subst e1 e2;rw[I7] at am;rw[List.getElem_cons_zero] at am;have ax:=κ (λw' (m:qh w w')=>Ul ah (ϊ ⟨b,ar+1,ϋ⟩) (cap-1) w' (SlP.keep IE ak.rest m));have ba:(1:Int)<=(args.length:Int)+1:=by omega
 have bb: ¬cap=1:=by omega
 have aK:=κ h.lt;clear h ak ah
 go_enter_defers func101,ntmps101
 go_upto_region 3 with fail
 clear am ao;refine zr W1 6 [(0,ύ),(2,ύ),(3,ύ),(1,ό),(4,ό),(5,ύ)] ξ ξ ?_
 refine Qq3 ?_
 (refine Ql ?_;intro K aa)
 go_call hF _ as e w5 ⟨rfl,rfl⟩;refine⟨_,rfl,qo ((qh.refl _).dr 1),aa _ _ ?_⟩;clear aa K
 (refine Ql ?_;intro K aa)
 go_call ax.o _ (ag.o.dr 1) as e w6 ⟨⟨g,aL,rfl,aD,aE,aF⟩,aI⟩;have ac:Hid (qh W1 w6):=κ (((qh.refl W1).dr 1).trans aI);refine⟨_,rfl,qo ac.o,aa _ _ ?_⟩;clear aa K
 iterate 1 (refine qz rfl rfl (qo ac.o) ?_;intro K aa;go_big_quiet_op;go_big_quiet_on)
 refine qD ?_;have aH:W1.heap.size<=g:=aD;have aw:Hid (Pl N pb o ([g]++([w.heap.size]++F)) w6):=κ (ab.o.adds ac.o (λb G=>by simp at G;subst G;exact⟨aH,aE⟩));have aG:g≠pb:=λe=>by have:=ab.o.lt pb ab.o.1;omega
 have az:Hid (xl pb ([w.heap.size]++F) W1 w6):=κ (ab.o.stay ac.o);have ae:=κ (aC _ w6 g aL aw.o η aG aF);have aJ:Hid (w6.heap[w.heap.size]? =ϊ (.cells #[.string ⟨#[]⟩] 9 (0,0))):=κ (qj ac.o av.o);have ad:Hid (∀d,xl pb ([g]++([w.heap.size]++F)) w6 d->d.heap[w.heap.size]? =ϊ (.cells #[.string ⟨#[]⟩] 9 (0,0))):=κ (λd t=>t.blk η (λe=>ap.o e.symm) aJ.o)
 have af:Hid (∀d v,Pl N pb aj ([g]++([w.heap.size]++F)) d->xl pb ([g]++([w.heap.size]++F)) w6 d->Pl N pb aj F (d.setCell ⟨w.heap.size,0,ϋ⟩ v)/\xl pb F w (d.setCell ⟨w.heap.size,0,ϋ⟩ v)):=κ (λd v I H=>by
  have a:qk (λb=>b∈[w.heap.size]) d (d.setCell ⟨w.heap.size,0,ϋ⟩ v):=(qk.refl _ _).set η _;refine⟨(I.mut a (λb G=>by simp at G;subst G;simp) (λG=>by simp at G;exact ap.o G)).sub (λb G=>by simp[G]) ?_, ?_⟩
  ·have:=ab.o.1;rcases ϥ.1 this with e | e
   ·simp at e;exact ϧ e ap.o
   ·exact e
  ·refine ay.o.trans ((az.o.sub (λb G=>by simp[G])).trans ((H.sub (λb G=>by simp[G])).trans ⟨a.size,λb G aX=> ?_⟩));have aV:b<w.heap.size:=aK.o b G
   exact a.block b (by have:=ay.o.1;have:=az.o.1;have:=H.1;omega) (λe=>by simp at e;omega))
 have aS:=λw=>run_string_add_lists (P:=prog) w [111,107,32] more ζ τ
 clear aD aE aF aI hF aC ax aG aH;cases o with
 | none=>
  by_cases hq:more=[]
  ·subst hq
   go_wp2_with ((go_at_call 162;(go_call ae.o as e d ⟨rfl,I,H⟩;have J:=κ (ad.o d H);have an:=ql J.o 0;have Y:=β0 J.o;have O:=κ (af.o d (.string ⟨#[111,107]⟩) I H);clear I H)))
   refine leaves_cons (f:=158) (args:= #[γ w.heap.size]) η (by simp[go_sem]) ?_;refine(uw ⟨w.heap.size,0,ϋ⟩ _).mono ?_;rintro e au w'' ⟨rfl,rfl,rfl⟩;have U: ∀v,(d.setCell ⟨w.heap.size,0,ϋ⟩ v).cell? ⟨w.heap.size,0,ϋ⟩=ϊ v:=λv=>World.cell?_setCell_same' _ _ v (by rw[Y];rfl)
   simp[Leaves,settle,results,results101,go_sem,U];exact⟨by rfl,O.o⟩
  ·have aO:(more==([]:List UInt8))=ύ:=by simp[hq]
   have al:Hid (Bz more=[111,107,32]++more):=κ (ώ hq);clear hq
   go_wp2_with ((go_at_call 162;(go_call ae.o as e d ⟨rfl,I,H⟩;have J:=κ (ad.o d H);have an:=ql J.o 0;have Y:=β0 J.o;have O:=κ (af.o d (.string ⟨([111,107,32]++more).toArray⟩) I H);clear I H)))
   refine leaves_cons (f:=158) (args:= #[γ w.heap.size]) η (by simp[go_sem]) ?_;refine(uw ⟨w.heap.size,0,ϋ⟩ _).mono ?_;rintro e au w'' ⟨rfl,rfl,rfl⟩;have U: ∀v,(d.setCell ⟨w.heap.size,0,ϋ⟩ v).cell? ⟨w.heap.size,0,ϋ⟩=ϊ v:=λv=>World.cell?_setCell_same' _ _ v (by rw[Y];rfl)
   rw[al.o];simp[Leaves,settle,results,results101,go_sem,U];exact O.o
 | some s=>
  obtain⟨R,aN,aB⟩:=aw.o.room;have aR:=β0 aB;clear aN aB;by_cases hq:more=[]
  ·subst hq
   go_wp2_with ((go_at_call 162;(go_call ae.o as e d ⟨rfl,I,H⟩;have J:=κ (ad.o d H);have an:=ql J.o 0;have Y:=β0 J.o;have O:=κ (af.o d (.string ⟨#[111,107]⟩) I H);clear I H)))
   refine leaves_cons (f:=158) (args:= #[γ w.heap.size]) η (by simp[go_sem]) ?_;refine(uw ⟨w.heap.size,0,ϋ⟩ _).mono ?_;rintro e au w'' ⟨rfl,rfl,rfl⟩;have U: ∀v,(d.setCell ⟨w.heap.size,0,ϋ⟩ v).cell? ⟨w.heap.size,0,ϋ⟩=ϊ v:=λv=>World.cell?_setCell_same' _ _ v (by rw[Y];rfl)
   simp[Leaves,settle,results,results101,go_sem,U];exact⟨by rfl,O.o⟩
  ·have aO:(more==([]:List UInt8))=ύ:=by simp[hq]
   have al:Hid (Bz more=[111,107,32]++more):=κ (ώ hq);clear hq
   go_wp2_with ((go_at_call 162;(go_call ae.o as e d ⟨rfl,I,H⟩;have J:=κ (ad.o d H);have an:=ql J.o 0;have Y:=β0 J.o;have O:=κ (af.o d (.string ⟨([111,107,32]++more).toArray⟩) I H);clear I H)))
   refine leaves_cons (f:=158) (args:= #[γ w.heap.size]) η (by simp[go_sem]) ?_;refine(uw ⟨w.heap.size,0,ϋ⟩ _).mono ?_;rintro e au w'' ⟨rfl,rfl,rfl⟩;have U: ∀v,(d.setCell ⟨w.heap.size,0,ϋ⟩ v).cell? ⟨w.heap.size,0,ϋ⟩=ϊ v:=λv=>World.cell?_setCell_same' _ _ v (by rw[Y];rfl)
   rw[al.o];simp[Leaves,settle,results,results101,go_sem,U];exact O.o
def pkT:Pk:=⟨ύ,96,1,9,7,[],ύ,0,[],[16,0]⟩
def pkU:List Int:=[128,96,0,1,0,0,0,9,0,0,0,7,16,0]
def tpB:pkB pkT=pkU:=by decide
def cfT:CfR:=⟨2,2,1,1,2,1⟩
def tp0:RmS:=uL cfT
def tp1:RmS:=(tp0.publish 0 7 8 9).1
def tp2:RmS:=(tp1.join 0 50 5 100).1
def tp3:RmS:=(tp2.subscribe 0 0 0).1
def tp4:RmS:=(tp3.arrive pkU).1
def wkT:List Og:=[(0,0),(1,0),(2,0),(3,0),(4,0)]
def tpP (j:Nat):RmS:=(wkT.take j).foldl (λs w=>(s.pick w ό).1) tp4
def tp5:RmS:=tpP 5
def tq1:(tp0.publish 0 7 8 9).2=0:=by kernel_rfl
def tq2:(tp1.join 0 50 5 100).2=0:=by kernel_rfl
def tq3:(tp2.subscribe 0 0 0).2=0:=by kernel_rfl
def tq4:(tp3.arrive pkU).2=0:=by kernel_rfl
def tq5:tp4.workers=wkT:=by kernel_rfl
def tq6: ∀j<5,(tpP j).may (wkT.getD j (0,0))=ό:=by decide+kernel
def tq7:(tp5.ln 0).W=[(0,[128,96,0,5,0,0,0,100,0,0,0,50,16,0])]:=by kernel_rfl
end Go.Proofs.YtlmllmonabafjaaGreatDoor
