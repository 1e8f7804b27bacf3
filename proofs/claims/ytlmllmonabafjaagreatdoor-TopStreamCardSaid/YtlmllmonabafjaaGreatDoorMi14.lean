/- x -/
import Derived.Test.YtlmllmonabafjaaGreatDoorMi13
namespace Go.Proofs.YtlmllmonabafjaaGreatDoor
open Option renaming some->ϊ,none->ϋ
open Bool renaming true->ό,false->ύ
open Go.Value renaming bool->μ,slice->δ,pointer->π,agg->θ
open Go.IntKind renaming i64->ι,u8->υ,u16->φ,u32->ω,i32->χ,u64->ψ
set_option linter.all false
set_option maxHeartbeats 8000000
open Go.RowKit
set_option maxRecDepth 100000
open _root_.Go.Proofs.Tryz
variable {s s':RmS} {w w' w0:World} {T:Nat->Tg} {k:RmK} {vp vr v:Value} {F:List Nat} {n cap:Nat} {x:Int} {L:List Og} {α:Type} {f:RmS->α->RmS} {jo:Int->Int} {l:List Int} {t:TS}
structure NF (s:RmS):Prop where
 owe: ∀x i,qh s.book (x,i)=ϊ 0-> ∃sb,qh s.tab.u x=ϊ sb/\sb.2.1=ό/\sb.2.2=(acP s.pks i).o.1
 seq: ∀x l sb,qh s.lanes x=ϊ l->qh s.tab.u x=ϊ sb->(sb.2.1=ό-> ∀i∈EI l,(acP s.pks i).o.1=sb.2.2)/\(sb.2.1=ύ->l.gone=ύ->EI l=[])
structure Pbr (s s':RmS):Prop where
 pks:s'.pks=s.pks
 tab:s'.tab.u=s.tab.u
 book: ∀k,qh s'.book k=ϊ 0->qh s.book k=ϊ 0
 lanes: ∀x l',qh s'.lanes x=ϊ l'-> ∃l,qh s.lanes x=ϊ l/\List.Sublist (EI l') (EI l)/\l'.gone=l.gone
def Pbr.refl (s:RmS):Pbr s s:=⟨rfl,rfl,λ_ h=>h,λx l h=>⟨l,h,Ϣ _,rfl⟩⟩
def Pbr.trans {s'':RmS} (h:Pbr s s') (k:Pbr s' s''):Pbr s s'':=by
 refine⟨k.pks.trans h.pks,k.tab.trans h.tab,λq e=>h.book q (k.book q e),λx l e=> ?_⟩;obtain⟨J,d,s1,H⟩:=k.lanes x l e;obtain⟨M,G,s2,I⟩:=h.lanes x J d;exact⟨M,G,s1.trans s2,H.trans I⟩
def Pbr.same (d:s'.pks=s.pks) (G:s'.tab.u=s.tab.u) (H:s'.book=s.book) (I:s'.lanes=s.lanes):Pbr s s':=
 ⟨d,G,λ_ h=>by rw[<-H];exact h,λx l h=>⟨l,by rw[<-I];exact h,Ϣ _,rfl⟩⟩
def Pbr.fold (d: ∀s a,Pbr s (f s a)): ∀(L:List α) (s:RmS),Pbr s (L.foldl f s)
 | [],s=>Pbr.refl s
 | a::L,s=>(d s a).trans (Pbr.fold d L (f s a))
def Pbr.lane {l l':LnS} (M:qh s.lanes x=ϊ l) (N:List.Sublist (EI l') (EI l)) (J:l'.gone=l.gone) (d:s'.lanes=qx s.lanes x l') (G:s'.pks=s.pks) (H:s'.tab.u=s.tab.u) (I: ∀k,qh s'.book k=ϊ 0->qh s.book k=ϊ 0):Pbr s s':=by
 refine⟨G,H,I,λy m h=> ?_⟩;rw[d,qF] at h;split at h
 ·rename_i e;injection h with e4
  subst e4;subst e;exact⟨l,M,N,J⟩
 ·exact⟨m,h,Ϣ _,rfl⟩
def NF.by (h:NF s) (k:Pbr s s'):NF s':=by
 refine⟨λx i e=> ?_,λx l N J d=> ?_⟩
 ·rw[k.pks,k.tab];exact h.owe x i (k.book _ e)
 ·obtain⟨M,G,s1,H⟩:=k.lanes x l J;rw[k.tab] at d;obtain⟨a,b⟩:=h.seq x M N G d;rw[k.pks];refine⟨λe i hi=>a e i (s1.subset hi),λe I=> ?_⟩;have:=b e (H.symm.trans I);rw[this] at s1;exact List.sublist_nil.1 s1
def EL (b:Bk) (x id f:Int) (k:Int×Int) (h:qh (jp b x id f) k=ϊ 0):qh b k=ϊ 0:=by
 by_cases hf:1<=f/\f<=8
 ·rw[ye b x id f hf] at h;split at h
  ·rename_i c;exact c.2
  ·exact h
 ·unfold jp at h;split at h
  ·unfold zi at h;rw[ώ hf] at h;exact h
  ·exact h
def On (x f:Int) (k:Int×Int): ∀(E:List Int) (b:Bk),qh (E.foldl (λb id=>jp b x id f) b) k=ϊ 0->qh b k=ϊ 0
 | [],_,h=>h
 | i::E,b,h=>EL b x i f k (On x f k E _ h)
def NP (id f:Int) (k:Int×Int): ∀(E:List Int) (b:Bk),qh (xG b E id f) k=ϊ 0->qh b k=ϊ 0
 | [],_,h=>h
 | i::E,b,h=>EL b i id f k (NP id f k E _ h)
def Sa (s:RmS) (x:Int):Pbr s (s.tell1 x):=by
 unfold RmS.tell1;cases qh s.tab.u x with
 | none=>exact Pbr.refl s
 | some sb=>
  simp only;split
  ·cases qh s.lanes x with
   | none=>exact Pbr.refl s
   | some l=>
    simp only;split
    ·cases qh s.strs (sb.2.2,l.cur) with
     | none=>exact Pbr.refl s
     | some t=>exact Pbr.same rfl rfl rfl rfl
    ·exact Pbr.refl s
  ·exact Pbr.refl s
def OH (s:RmS) (b:List Int):Pbr s (s.tell b):=by
 unfold RmS.tell;split
 ·have d:Pbr s {s with cnt:={s.cnt with told:=s.cnt.told+1}}:=Pbr.same rfl rfl rfl rfl;exact d.trans (Pbr.fold (f:=RmS.tellS) (λs G=>Pbr.fold (f:=RmS.tell1) Sa _ s) _ _)
 ·exact Pbr.same rfl rfl rfl rfl
def RL (s:RmS) (x:Int):Pbr s (s.choose x):=by
 unfold RmS.choose;cases hl:qh s.lanes x with
 | none=>exact Pbr.refl s
 | some l=>
  refine Pbr.lane hl (OL l) (Kt l).2.2.1 rfl rfl rfl λk h=> ?_
  simp only at h;split at h
  ·exact EL _ _ _ _ _ h
  ·exact h
def Re (l:LnS):(qY l).1.gone=l.gone:=by
 rcases MZ (s:=l) with ⟨_,h⟩ | ⟨x,f,B,d,h⟩<;>rw[h]
def Rr (s:RmS) (x:Int):Pbr s (s.rewrite x):=by
 unfold RmS.rewrite;cases hl:qh s.lanes x with
 | none=>exact Pbr.refl s
 | some l=>
  refine Pbr.lane hl (Ow l) (Re l) rfl rfl rfl λk h=> ?_
  simp only at h;split at h
  ·exact EL _ _ _ _ _ h
  ·exact h
def Rv (L:List Int) (s:RmS):Pbr s (L.foldl RmS.drain1 s):=Pbr.fold (f:=RmS.drain1) (λs id=>⟨rfl,rfl,λk h=>NP id 8 k subIds s.book h,λx l h=>⟨l,h,Ϣ _,rfl⟩⟩) L s
def Ou (s:RmS) (w:Og):Pbr s (s.drain w):=by
 unfold RmS.drain;split
 ·exact Pbr.same rfl rfl rfl rfl
 ·split
  ·refine Pbr.fold (λs o=> ?_) _ s;unfold RmS.drainO;cases qh s.strs o with
   | none=>exact Pbr.refl s
   | some t=>
    simp only;have d:Pbr s {s with strs:=qx s.strs o {t with buf:=vP t.buf}}:=Pbr.same rfl rfl rfl rfl;exact d.trans (Rv _ _)
  ·unfold RmS.drainL;cases hl:qh s.lanes w.2 with
   | none=>exact Pbr.refl s
   | some l=>exact Pbr.lane hl (OV l _) rfl rfl rfl rfl λk h=>On _ _ _ _ _ h
def NF.puts (G:ItS): ∀(L:List Int) {s:RmS},NF s->NF (L.foldl (RmS.put1 G) s)
 | [],_,h=>h
 | x::L,s,h=>by
  rw[ε];refine NF.puts G L ?_;unfold RmS.put1;split
  ·rename_i Y;cases hl:qh s.lanes x with
   | none=>exact h
   | some l=>
    obtain⟨aa,M,N,O⟩:=h.owe x G.id Y;have key: ∀I:Bk,(∀k,qh I k=ϊ 0->qh s.book k=ϊ 0)->NF {s with lanes:=qx s.lanes x (xp l G).1,book:=I}:=λI U=>by
     refine⟨λy i e=>h.owe y i (U _ e),λy m ab d H=> ?_⟩;simp only at d;rw[qF] at d;split at d
     ·rename_i e;injection d with e2
      subst e;simp only at H;rw[M] at H;injection H with e3
      subst e3;refine⟨λ_ i hi=> ?_,λe=>(by rw[N] at e;cases e)⟩;rw[<-e2] at hi;rcases ϡ.1 ((Ra l G).subset hi) with a | a
      ·exact(h.seq _ l aa hl M).1 N i a
      ·rw[Δ] at a;rw[a];exact O.symm
     ·exact h.seq y m ab d H
    simp only;split
    ·exact key _ λk J=>EL _ _ _ _ _ J
    ·exact key _ λk J=>J
  ·exact h
def NF.order (h:NF s):NF s.order:=by
 unfold RmS.order;cases s.ready with
 | none=>exact h
 | some o=>
  simp only;cases qh s.strs o with
  | none=>exact h
  | some t=>
   simp only;unfold RmS.orderAt;exact NF.puts _ subIds (h.by (Pbr.same (s':={s with strs:=qx s.strs o {t with buf:=(yD t.buf s.clock).1}}) rfl rfl rfl rfl))
def NF.accept (h:NF s) (aa:EO s) (M:OwO s) (o:Og) (p:Pk):NF (s.accept o p):=by
 unfold RmS.accept;cases ht:qh s.strs o with
 | none=>exact h
 | some t=>
  have Y: ∀x,qh s.book (x,(s.pks.length:Int))=ϋ:=λx=>by
   cases H:qh s.book (x,(s.pks.length:Int)) with
   | none=>rfl
   | some v=>have:=(M.bel x _ v H).2;omega
  have N: ∀x∈prR (j8 o.1) s.tab.u,0<=x/\x<6:=λx ac=>subIds_iff.1 (mem_prR.1 ac).1
  have U:=λk=>ZM (s.pks.length:Int) τ k _ s.book N (λx=>ϒ (Y x))
  have O: ∀k,qh (if yY (jP t.buf (yV t p.sq) s.clock s.pks.length).2=0 then Ji s.book (prR (j8 o.1) s.tab.u) s.pks.length else xG (Ji s.book (prR (j8 o.1) s.tab.u) s.pks.length) (prR (j8 o.1) s.tab.u) s.pks.length (yY (jP t.buf (yV t p.sq) s.clock s.pks.length).2)) k=ϊ 0->qh (Ji s.book (prR (j8 o.1) s.tab.u) s.pks.length) k=ϊ 0:=λk e=>by
   split at e
   ·exact e
   ·exact NP _ _ _ _ _ e
  refine⟨λx i e=> ?_,λx l I J ab=> ?_⟩
  ·simp only at e ⊢;have d:=O _ e;rw[U] at d;split at d
   ·rename_i c;obtain⟨c1,c2⟩:=c;simp only at c1 c2;obtain⟨I,ad,G⟩:=(mem_prR.1 c2).2;unfold j8 at G;rw[B9] at G;rw[c1,Rd];exact⟨I,ad,G.1,ϟ G.2⟩
   ·have H:=M.bel x i 0 d;rw[NO _ _ H];exact h.owe x i d
  ·obtain⟨a,b⟩:=h.seq x l I J ab;refine⟨λe i hi=> ?_,b⟩;simp only;rw[NO _ _ (aa.inn x l J i hi).1];exact a e i hi
def NF.write (h:NF s) (x:Int) (acc:Bool) (M:(qh s.lanes x).isSome=ό->0<=x/\x<6):NF (s.write x acc):=by
 unfold RmS.write;cases hl:qh s.lanes x with
 | none=>exact h
 | some l=>
  have M:=M (by rw[hl];rfl);have N: ∀k,qh (if (qX l acc).2.2.2&&decide ((qX l acc).2.2.1=1) then jp s.book x (qX l acc).2.1 (qX l acc).2.2.1 else s.book) k=ϊ 0->qh s.book k=ϊ 0:=λk e=>by
   split at e
   ·exact EL _ _ _ _ _ e
   ·exact e
  simp only;cases hg:(qX l acc).1.gone with
  | false=>
   simp only[Ϯ,C2];have ab:(qX l acc).1.gone=l.gone:=by
    rw[hg];rcases uV (s:=l) acc with ⟨_,e⟩ | ⟨o,C,_,e⟩
    ·rw[e] at hg;exact hg.symm
    ·cases hlg:l.gone with
     | false=>rfl
     | true=>
      rcases e with ⟨_,e⟩ | ⟨_,e0,_,e⟩
      ·rw[e] at hg;unfold V2 at hg;rw[ϐ hlg] at hg;cases hg
      ·rw[hlg] at e0;cases e0
   exact h.by (Pbr.lane hl (Ot l acc) ab rfl rfl rfl N)
  | true=>
   simp only[A0];have O: ∀y,y≠x->qh (zM s.tab x).1.u y=qh s.tab.u y:=λy d=>by
    unfold zM;rw[ϐ M];split
    ·simp only;rw[qF,ώ d]
    ·rfl
   have ac: ∀G,qh (zM s.tab x).1.u x=ϊ G->G.2.1=ύ:=λG e=>by
    unfold zM at e;rw[ϐ M] at e;split at e
    ·simp only at e;rw[qF,ϐ rfl] at e;injection e with e;rw[<-e]
    ·rename_i c;simp only at e;rw[e] at c
     simpa using c
   have aa: ∀y i,qh (vM (if (qX l acc).2.2.2&&decide ((qX l acc).2.2.1=1) then jp s.book x (qX l acc).2.1 (qX l acc).2.2.1 else s.book) x 7) (y,i)=ϊ 0->y≠x/\qh s.book (y,i)=ϊ 0:=λy i e=>by
    by_cases d:y=x
    ·subst d;exact ϩ e (VR _ _ _ ζ)
    ·rw[XH _ _ _ d] at e;exact⟨d,N _ e⟩
   refine⟨λy i e=> ?_,λy m G I J=> ?_⟩
   ·obtain⟨d,U⟩:=aa y i e;simp only;rw[O y d];exact h.owe y i U
   ·simp only at I J;rw[qF] at I;split at I
    ·rename_i e;injection I with e2
     subst e;have Y:=ac G J;exact⟨λH=>(by rw[Y] at H;cases H),λ_ H=>(by rw[<-e2,hg] at H;cases H)⟩
    ·rename_i d;rw[O y d] at J;exact h.seq y m G I J
def Rz (t:TS) (p s0 s1 s2:Int):(vA t p s0 s1 s2).1.u=t.u:=by
 unfold vA;split
 ·split
  ·rfl
  ·split
   ·rfl
   ·split<;>rfl
 ·rfl
def NF.act (h:NF s) (al:EO s) (ag:qV n s) (ah:(s.tab.u.map Prod.fst).Nodup) (a:A22):NF (doR s a).1:=by
 have am: ∀w acc,NF (s.stepW w acc):=λw acc=>by
  unfold RmS.stepW;split
  ·unfold RmS.endW;split
   ·exact(h.by (Ou s w)).by (Pbr.same rfl rfl rfl rfl)
   ·exact h.by (Ou s w)
  ·split
   ·unfold RmS.read;cases s.queue with
    | nil=>exact h
    | cons b q=>
     simp only;have aa:NF {s with queue:=q}:=h.by (Pbr.same rfl rfl rfl rfl);split
     ·exact aa.by (OH _ b)
     ·unfold RmS.media;split
      ·cases qh ({s with queue:=q}:RmS).tab.o (jl b).1.sc with
       | none=>exact aa.by (Pbr.same rfl rfl rfl rfl)
       | some o=>exact aa.accept (al.by (Sqr.same rfl rfl rfl)) (ag.ow.same rfl rfl rfl rfl) o _
      ·exact aa.by (Pbr.same rfl rfl rfl rfl)
   ·split
    ·exact h.order
    ·split
     ·exact h.by (RL s _)
     ·split
      ·exact h.by (Rr s _)
      ·refine h.write _ _ λe=> ?_
       obtain⟨l,O⟩:=Ϥ.1 e;exact subIds_iff.1 (ag.ow.sub _ l O).1
 unfold doR;split
 ·unfold RmS.arrive;split
  ·exact h
  ·split<;>exact h.by (Pbr.same rfl rfl rfl rfl)
 ·split
  ·unfold RmS.pick;split
   ·exact am _ _
   ·exact h
  ·split
   ·unfold RmS.tick;split
    ·exact h
    ·have k:=ur s.origins {s with clock:=s.clock+1};exact h.by (Pbr.same k.pks (ϯ TS.u k.tab) k.book k.lanes)
   ·split
    ·unfold RmS.publish;split
     ·exact h
     ·split
      ·exact h.by (Pbr.same rfl (Rz _ _ _ _ _) rfl rfl)
      ·exact h
    ·split
     ·unfold RmS.join;split
      ·exact h
      ·split
       ·rename_i d;have J:0<=a.sub/\a.sub<6:=by
         unfold yI at d;split at d
         ·assumption
         ·simp at d
        have ae:(qh s.tab.u a.sub).isSome=ύ:=by
         unfold yI at d;rw[ϐ J] at d;split at d
         ·simp at d
         ·rename_i c;simpa using c
        have e:(yI s.tab a.sub a.own).1.u=qx s.tab.u a.sub (a.own,ύ,0):=by
         unfold yI;rw[ϐ J,ώ (by rw[ae];decide)]
        refine⟨λy i I=> ?_,λy m N G H=> ?_⟩
        ·obtain⟨N,M,Y⟩:=h.owe y i I;refine⟨N, ?_,Y⟩;simp only;rw[e,qF,ώ (λc=>by rw[c] at M;rw[M] at ae;cases ae)];exact M
        ·simp only at G H;rw[e,qF] at H;rw[qF] at G;by_cases c:y=a.sub
         ·rw[ϐ c] at G H;injection G with e2
          injection H with e3
          subst e3;rw[<-e2];exact⟨λai=>(by cases ai),λ_ _=>rfl⟩
         ·rw[ώ c] at G H;exact h.seq y m N G H
       ·exact h
     ·split
      ·unfold RmS.subscribe;split
       ·exact h
       ·split
        ·exact h
        ·split
         ·exact h
         ·rename_i ad;split
          ·rename_i d;cases O:qh s.lanes a.sub with
           | none=>exact h
           | some l=>
            have ak:l.gone=ύ:=by
             unfold JV at ad;rw[O] at ad
             simpa using ad
            have J:(0<=a.sub/\a.sub<6)/\(0<=a.pub/\a.pub<3):=by
             unfold vL at d;split at d
             ·assumption
             ·simp at d
            have U:(qh s.tab.u a.sub).isSome=ό/\(qh s.tab.s (a.pub,0)).isSome=ό:=by
             unfold vL at d;rw[ϐ J] at d;split at d
             ·assumption
             ·simp at d
            obtain⟨N,ab⟩:=Ϥ.1 U.1;have ac:N.2.1=ύ:=by
             unfold vL at d;rw[ϐ J,ϐ U,ab] at d;simp only[ϥ] at d;split at d
             ·simp at d
             ·rename_i c;simpa using c
            have e:(vL s.tab a.sub a.pub).1.u=qx s.tab.u a.sub (N.1,ό,a.pub):=by
             unfold vL;rw[ϐ J,ϐ U,ab];simp only[ϥ];rw[ώ (by rw[ac];decide)]
            refine⟨λy i I=> ?_,λy m af G H=> ?_⟩
            ·obtain⟨af,M,Y,an⟩:=h.owe y i I;refine⟨af, ?_,Y,an⟩;simp only;rw[e,qF,ώ (λc=>by rw[c,ab] at M;injection M with M;rw[<-M,ac] at Y;cases Y)];exact M
            ·simp only at G H;rw[e,qF] at H;rw[qF] at G;by_cases c:y=a.sub
             ·rw[ϐ c] at G H;injection G with e2
              injection H with e3
              subst e3;rw[<-e2,OJ,(h.seq a.sub l N O ab).2 ac ak];exact⟨λ_ i hi=>(by cases hi),λ_ _=>rfl⟩
             ·rw[ώ c] at G H;exact h.seq y m af G H
          ·exact h
      ·split
       ·unfold RmS.want;split
        ·exact h
        ·split
         ·exact h
         ·split
          ·exact h
          ·cases O:qh s.lanes a.sub with
           | none=>exact h
           | some l=>
            refine h.by (Pbr.lane O (by rw[OJ];exact Ϣ _) ?_ rfl rfl rfl λ_ aj=>aj);rcases NR (s:=l) a.layer with e | ⟨_,e⟩<;>rw[e]
       ·split
        ·unfold RmS.leave;split
         ·exact h
         ·split
          ·rename_i d;have J:0<=a.sub/\a.sub<6:=by
            unfold zW at d;split at d
            ·assumption
            ·simp at d
           have U:(qh s.tab.u a.sub).isSome=ό:=by
            unfold zW at d;rw[ϐ J] at d;split at d
            ·assumption
            ·simp at d
           have e:(zW s.tab a.sub).1.u=yK s.tab.u a.sub:=by
            unfold zW;rw[ϐ J,ϐ U]
           refine⟨λy i I=> ?_,λy m N G H=> ?_⟩
           ·simp only at I ⊢;by_cases c:y=a.sub
            ·rw[c] at I;exact ϩ I (VR _ _ _ ζ)
            ·rw[XH _ _ _ c] at I;rw[e,gD ah,ώ c];exact h.owe y i I
           ·simp only at G H;rw[uR] at G;split at G
            ·cases G
            ·rename_i c;rw[e,gD ah,ώ c] at H;exact h.seq y m N G H
          ·exact h
        ·split
         ·unfold RmS.shut;split
          ·exact h
          ·exact h.by (Pbr.same rfl rfl rfl rfl)
         ·exact h
def EF (s:RmS) (x:Int):Int:=match qh s.tab.u x with
 | some sb=>if sb.2.1 then sb.2.2 else -1
 | none=> -1
def EO.start (c:CfR):EO (ud c):=⟨λx l h=>(by cases h),λx l h=>(by cases h),λo t h=>(by cases h),λi hi=>(by have:=hi.2;simp[ud] at this;omega)⟩
def NG.start (c:CfR):NG (ud c):=λx l h=>by cases h
def NF.start (c:CfR):NF (ud c):=⟨λx i h=>(by cases h),λx l d h=>(by cases h)⟩
def Ho (H:qI w0 w k s F):Calls prog 28 #[γ k.R] w λe w'=>e= .returned (ι s.shut.2)/\qI w0 w' k s.shut.1 F/\qw F w w':=by
 have J:=κ H;obtain⟨vp,aa,d⟩:=H.blk;have O:=β7 d;have Y:=yw d 7;obtain⟨U,I⟩:=ν (s.closed);rw[I] at O;have N:=κ I;clear I H d;cases U with
 | true=>
  have G:Hid (s.shut=(s,7)):=κ (by unfold RmS.shut;rw[ϐ N.o]);rw[G.o]
  go_enter func28,ntmps28
  go_wp2;go_ret;exact⟨rfl,J.o,qw.refl _ _⟩
 | false=>
  have G:Hid (s.shut=({s with closed:=ό},0)):=κ (by unfold RmS.shut;rw[ώ (by rw[N.o];decide)]);have M:=κ (J.o.cell 7 (μ ό) (s':={s with closed:=ό}) (λ_ _=>rfl) ⟨rfl,rfl,rfl,rfl,rfl,rfl,rfl,rfl,rfl⟩);rw[G.o]
  go_enter func28,ntmps28
  go_wp2;go_ret;exact⟨rfl,M.o.1,M.o.2⟩
def RmX.laneDel (h:RmX T w0 w k vp vr s F) (m:jk w' k.ML (Value.int .i64) gj (yK k.LA x)) (a:jt (λb=>b=k.ML) w w'):
  qI w0 w' {k with LA:=yK k.LA x} {s with lanes:=Yh s.lanes x} F/\qw F w w':=by
 obtain⟨d,J⟩:=h.all .lns;have I:=J.keys;have H:=h.fresh;obtain⟨y,z⟩:=h.own (t:= .lns) (k':={k with LA:=yK k.LA x}) (vp':=vp) (vr':=vr) (s':={s with lanes:=Yh s.lanes x}) ⟨η,η⟩ (a.mono λb G=>by rw[G];exact d) ⟨(jd H η _).2 (ϒ d),m⟩
  (λu M O y=>by
   cases u<;>first | exact y | exact ϩ rfl M | skip
   rename_i N;unfold RmK.Holds at y ⊢;simp only;rw[gD I,uR];by_cases e:N=x
   ·rw[ϐ e,ϐ e];exact⟨λp l c=>(by cases c),rfl⟩
   ·rw[ώ e,ώ e]
    exact y)
 exact⟨y.at,z⟩
def KK (h:RmX T w0 w k vp vr s F) (b:jq w' k.tb k.ta k.tc k.td t) (a:jt (λx=>x=k.td) w w'):qI w0 w' k {s with tab:=t} F/\qw F w w':=
 h.table b (a.mono λ_ e=>ϔ (ϔ e))
def Lh (aq:qI w0 w k s F) (ai:s.book.length<=900000) (x:Int):
  Calls prog 47 #[γ k.R,ι x] w λe w'=> ∃k',k'.R=k.R/\e= .returned (ι (s.leave x).2)/\qI w0 w' k' (s.leave x).1 F/\qw F w w':=by
 obtain⟨T,vp,aB,Y⟩:=aq;have U:=κ Y;have ao:=β7 Y.blk;have ax:=β11 Y.blk;obtain⟨ap,ad⟩:=ν (s.closed);rw[ad] at ao;have aa:=κ ad;have am:=κ ai;clear ad Y ai;cases ap with
 | true=>
  have H:Hid (s.leave x=(s,7)):=κ (by unfold RmS.leave;rw[ϐ aa.o]);rw[H.o]
  go_enter func47,ntmps47
  go_wp2;go_ret;exact⟨k,rfl,rfl,U.o.at,qw.refl _ _⟩
 | false=>
  have O:=κ (FC U.o.tab x);obtain⟨ab,d⟩:=ν ((zW s.tab x).2);obtain⟨al,M⟩:=ν ((zW s.tab x).1);rw[d,M] at O;by_cases e0:ab=0
  ·subst e0;have H:Hid (s.leave x=({s with tab:=al,book:=vM s.book x 7,lanes:=Yh s.lanes x},0)):=κ (by unfold RmS.leave;rw[ώ (by rw[aa.o];decide),ϐ d,M]);rw[H.o];clear d M
   go_enter func47,ntmps47
   go_wp2_with (first | (go_at_call 106;(go_call O.o as e w1 ⟨rfl,J,I⟩;have G:=κ (KK U.o J I);obtain⟨_,_,ae⟩:=G.o.1.blk;have aw:=β0 ae;clear J I ae)) | (go_at_call 107;(go_call LJ G.o.1 x (by have:=am.o;show s.book.length<=1000000;omega) as e w2 ⟨⟨az,rfl⟩,ac,t2,_⟩;obtain⟨ag,aA,aC,N⟩:=ac;have au:=κ N;have ag:=κ t2;have ay:=β12 N.blk;obtain⟨w9,ak,aj,ah,_⟩:=N.lnm.drop kE underlying90 x 0;have ak: ∀ty,(Builtin.delete_ #[90,3] ty #[.map (ϊ k.ML),ι x]).run prog w2= .ok (.tuple #[]) w9:=λ_=>ak;have af:=κ (N.laneDel aj ah);clear aj ah N t2)))
   go_ret;exact⟨{k with LA:=yK k.LA x},rfl,rfl,af.o.1,G.o.2.trans (ag.o.trans af.o.2)⟩
  ·have av:(ab != 0)=ό:=by simp[e0]
   have H:Hid (s.leave x=(s,ab)):=κ (by unfold RmS.leave;rw[ώ (by rw[aa.o];decide),d,ώ e0])
   have an:Hid (al=s.tab):=κ (by
    rw[<-M];unfold zW at d ⊢;split
    ·rename_i ar;rw[ϐ ar] at d;split
     ·rename_i ac;rw[ϐ ac] at d;exact ϩ d.symm e0
     ·rfl
    ·rfl)
   rw[an.o] at O;rw[H.o];clear d M e0
   go_enter func47,ntmps47
   go_wp2_with (go_at_call 106;(go_call O.o as e w1 ⟨rfl,J,I⟩;have G:=κ (KK U.o J I);clear J I))
   go_ret;exact⟨k,rfl,rfl,G.o.1,G.o.2⟩
def Ak (h:RmX T w0 w k vp vr s F) {l:LnS} {p:Nat} (d:qh s.lanes x=ϊ l) (G:qh k.LA x=ϊ p) (n:Int):
  Calls prog 91 #[γ p,ι n] w λe w'=>e= .returned (ι (jO l n).2)/\qI w0 w' k {s with lanes:=qx s.lanes x (jO l n).1} F/\qw F w w':=by
 obtain⟨p2,H,I⟩:=h.laneAt d;obtain rfl:p2=p:=by rw[G] at H;injection H with e;exact e.symm
 refine(Ed I n).mono ?_;rintro e w' ⟨rfl,b,a⟩;exact⟨rfl,h.lanePut d G b a⟩
def Ms (ar:qI w0 w k s F) (ai:zc s) (x n:Int):
  Calls prog 36 #[γ k.R,ι x,ι n] w λe w'=>e= .returned (ι (s.want x n).2)/\qI w0 w' k (s.want x n).1 F/\qw F w w':=by
 obtain⟨T,vp,aA,aa⟩:=ar;have d:=κ aa;have al:=κ ai;have ap:=β7 aa.blk;have aw:=β11 aa.blk;obtain⟨aq,ab⟩:=ν (s.closed);rw[ab] at ap;have af:=κ ab;clear ab aa ai;cases aq with
 | true=>
  have G:Hid (s.want x n=(s,7)):=κ (by unfold RmS.want;rw[ϐ af.o]);rw[G.o]
  go_enter func36,ntmps36
  go_wp2;go_ret;exact⟨rfl,d.o.at,qw.refl _ _⟩
 | false=>
  have I:Hid (s.want x n=if (decide (0<=x/\x<6)&&jj n)=ύ then (s,1) else if ((qh s.tab.u x).getD sb0).2.1=ύ then (s,5) else (match qh s.lanes x with
   | none=>(s,0)
   | some l=>({s with lanes:=qx s.lanes x (jO l n).1},(jO l n).2))):=κ (by unfold RmS.want;rw[ώ (by rw[af.o];decide)];rfl)
  obtain⟨av,ae⟩:=ν (jj n);have U:=κ (λw=>Ub n w);rw[ae] at U I;by_cases h1:x<0
  ·have G:Hid (s.want x n=(s,1)):=κ (by rw[I.o,ϫ τ,ϐ (by rfl)]);rw[G.o]
   go_enter func36,ntmps36
   go_wp2;go_ret;exact⟨rfl,d.o.at,qw.refl _ _⟩
  ·by_cases h2:x<6
   ·cases av with
    | false=>
     have G:Hid (s.want x n=(s,1)):=κ (by rw[I.o,O6,ϐ rfl]);rw[G.o];clear ae
     go_enter func36,ntmps36
     go_wp2_with (go_at_call 89;(go_call U.o _ as e w1 ⟨rfl,M⟩;obtain rfl:=M))
     go_ret;exact⟨rfl,d.o.at,qw.refl _ _⟩
    | true=>
     have N:Hid (s.want x n=if ((qh s.tab.u x).getD sb0).2.1=ύ then (s,5) else (match qh s.lanes x with
      | none=>(s,0)
      | some l=>({s with lanes:=qx s.lanes x (jO l n).1},(jO l n).2))):=κ (by rw[I.o,ϭ τ,ώ ζ])
     have O:=κ (LH d.o.tab x);obtain⟨au,ad⟩:=ν ((qh s.tab.u x).getD sb0);rw[ad] at O N;have am:=κ ad;clear ae ad I;obtain⟨s1,s2,az⟩:=au;simp only at O N;cases s2 with
     | false=>
      have G:Hid (s.want x n=(s,5)):=κ (by rw[N.o,ϐ rfl]);rw[G.o]
      go_enter func36,ntmps36
      go_wp2_with (first | (go_at_call 89;(go_call U.o _ as e w1 ⟨rfl,M⟩;obtain rfl:=M)) | (go_at_call 90;(go_call O.o as e w2 ⟨rfl,H⟩;have J:=κ H;clear H)))
      go_ret;exact⟨rfl,d.o.at.on J.o,d.o.at.stay J.o⟩
     | true=>
      have ah:(qh s.lanes x).isSome=ό:=by
       rw[<-al.o.lane];have:=am.o;cases hu:qh s.tab.u x with
       | none=>rw[hu] at this;simp only[Option.getD_none] at this;unfold sb0 at this;injection this with _ q;injection q with q _;(try cases q)
       | some y=>rfl
      obtain⟨l,Y⟩:=Ϥ.1 ah;obtain⟨p,ac,_⟩:=d.o.laneAt Y;have G:Hid (s.want x n=({s with lanes:=qx s.lanes x (jO l n).1},(jO l n).2)):=κ (by rw[N.o,ώ ζ,Y]);have an:=κ (λw' (m:ql w w')=>Ak (d.o.on m) Y ac n)
      have ak:Hid (∀w',ql w w'->(Instr.lookup 90 (.map (ϊ k.ML)) (ι x) ύ).run prog w'= .ok (γ p) w'):=κ (λw' m=>by
       have:=xq (d.o.lnm.more m) x ύ;rw[ac] at this
       exact this)
      rw[G.o];clear ah Y ac
      go_enter func36,ntmps36
      go_wp2_with (first | (go_at_call 89;(go_call U.o _ as e w1 ⟨rfl,M⟩;obtain rfl:=M)) | (go_at_call 90;(go_call O.o as e w2 ⟨rfl,H⟩;have J:=κ H;have ax:=β12 (qq H d.o.blk);have ay:=ak.o _ H;clear H)) | (go_at_call 91;(go_call an.o _ J.o as e aB ⟨rfl,ag,t3⟩;have aj:=κ ag;have ao:=κ t3;clear ag t3)))
      go_ret;exact⟨rfl,aj.o,(d.o.at.stay J.o).trans ao.o⟩
   ·have G:Hid (s.want x n=(s,1)):=κ (by rw[I.o,ϫ τ,ϐ (by rfl)]);rw[G.o]
    go_enter func36,ntmps36
    go_wp2;go_ret;exact⟨rfl,d.o.at,qw.refl _ _⟩
def Vr {p:Int} (h: ¬(vL t x p).2=0):(vL t x p).1=t:=by
 unfold vL at h ⊢
 repeat' split
 all_goals first | rfl | skip
 rename_i d G H;rw[ϐ d,ϐ G,ώ H] at h;exact ϩ rfl h
def GC {p:Int} (h:qh t.u x=ϋ): ¬(vL t x p).2=0:=by
 unfold vL;rw[h];split<;>simp
def XM (aI:qI w0 w k s F) (aw:zc s) (x p n:Int):
  Calls prog 46 #[γ k.R,ι x,ι p,ι n] w λe w'=>e= .returned (ι (s.subscribe x p n).2)/\qI w0 w' k (s.subscribe x p n).1 F/\qw F w w':=by
 obtain⟨T,vp,aO,an⟩:=aI;have d:=κ an;have aC:=κ aw;have aG:=β7 an.blk;obtain⟨aH,am⟩:=ν (s.closed);rw[am] at aG;have ad:=κ am;clear am an aw;cases aH with
 | true=>
  have G:Hid (s.subscribe x p n=(s,7)):=κ (by unfold RmS.subscribe;rw[ϐ ad.o]);rw[G.o]
  go_enter func46,ntmps46
  go_wp2;go_ret;exact⟨rfl,d.o.at,qw.refl _ _⟩
 | false=>
  obtain⟨aJ,J⟩:=ν (jj n);have Y:=κ (λw=>Ub n w);rw[J] at Y;cases aJ with
  | false=>
   have G:Hid (s.subscribe x p n=(s,1)):=κ (by unfold RmS.subscribe;rw[ώ (by rw[ad.o];decide),ϐ J]);rw[G.o];clear J
   go_enter func46,ntmps46
   go_wp2_with (go_at_call 89;(go_call Y.o _ as e w1 ⟨rfl,N⟩;obtain rfl:=N))
   go_ret;exact⟨rfl,d.o.at,qw.refl _ _⟩
  | true=>
   have aM:=β12 d.o.blk;have q:_:=xq d.o.lnm x ό;simp only[A0] at q;obtain⟨U,H⟩:=ν ((vL s.tab x p).2);obtain⟨ax,ab⟩:=ν ((vL s.tab x p).1);cases hl:qh s.lanes x with
   | none=>
    have av:=d.o.laneNo hl;rw[av] at q
    replace q:(Instr.lookup 90 (.map (ϊ k.ML)) (ι x) ό).run prog w= .ok (.tuple #[π ϋ,ύ]) w:=q
    have al:qh s.tab.u x=ϋ:=by
     have:=aC.o.lane x;rw[hl] at this;cases al:qh s.tab.u x with
     | none=>rfl
     | some y=>rw[al] at this;cases this
    have ak:=GC (p:=p) al;have ag:=Vr ak
    have G:Hid (s.subscribe x p n=(s,U)):=κ (by
     unfold RmS.subscribe JV
     rw[ώ (by rw[ad.o];decide),ώ (by rw[J];decide),hl,ώ ζ,ώ ak,H])
    have O:=κ (Jf d.o.tab x p);rw[ag,H] at O;have aF:(U != 0)=ό:=by rw[<-H];simp[ak]
    have ar:=β11 d.o.blk;rw[G.o];clear J hl av al ak ag H ab
    go_enter func46,ntmps46
    go_wp2_with (first | (go_at_call 89;(go_call Y.o _ as e w1 ⟨rfl,N⟩;obtain rfl:=N)) | (go_at_call 105;(go_call O.o as e w2 ⟨rfl,aq,ap⟩;have ao:=κ (KK d.o aq ap);clear aq ap)))
    go_ret;exact⟨rfl,ao.o.1,ao.o.2⟩
   | some l=>
    obtain⟨pl,af,aj⟩:=d.o.laneAt hl;rw[af] at q
    replace q:(Instr.lookup 90 (.map (ϊ k.ML)) (ι x) ό).run prog w= .ok (.tuple #[γ pl,ό]) w:=q
    have ah:=κ (JB aj);have aA:=κ hl;have aB:=κ af;obtain⟨g,aa⟩:=ν (l.gone);rw[aa] at ah;cases g with
    | true=>
     have G:Hid (s.subscribe x p n=(s,5)):=κ (by
      unfold RmS.subscribe JV
      rw[ώ (by rw[ad.o];decide),ώ (by rw[J];decide),hl,ϐ aa])
     rw[G.o];clear J hl af aj aa H ab
     go_enter func46,ntmps46
     go_wp2_with (first | (go_at_call 89;(go_call Y.o _ as e w1 ⟨rfl,N⟩;obtain rfl:=N)) | (go_at_call 69;(go_call ah.o as e w2 ⟨rfl,M⟩;have I:=κ M;clear M)))
     go_ret;exact⟨rfl,d.o.at.on I.o,d.o.at.stay I.o⟩
    | false=>
     have O:=κ (λw' (m:ql w w')=>Jf (d.o.tab.more m) x p);have ai:s.subscribe x p n=if U=0 then ({s with tab:=ax,lanes:=qx s.lanes x (jO l n).1},(jO l n).2) else (s,U):=by
      unfold RmS.subscribe JV;rw[ώ (by rw[ad.o];decide),ώ (by rw[J];decide),hl];simp only;rw[ώ (by rw[aa];decide),H,ab]
     by_cases e0:U=0
     ·subst e0;have G:Hid (s.subscribe x p n=({s with tab:=ax,lanes:=qx s.lanes x (jO l n).1},(jO l n).2)):=κ (by rw[ai,ϐ rfl]);rw[H,ab] at O;rw[G.o];clear J hl af aj aa H ab ai
      go_enter func46,ntmps46
      go_wp2_with (first | (go_at_call 89;(go_call Y.o _ as e w1 ⟨rfl,N⟩;obtain rfl:=N)) | (go_at_call 69;(go_call ah.o as e w2 ⟨rfl,M⟩;have I:=κ M;have ar:=β11 (qq M d.o.blk);clear M)) | (go_at_call 105;(go_call O.o _ I.o as e aK ⟨rfl,ae,a3⟩;have ac:=κ (KK (d.o.on I.o) ae a3);obtain⟨aL,aN,aP,ay⟩:=ac.o.1;have aD:=κ (Ak ay aA.o aB.o n);clear ae a3 ay)) | (go_at_call 91;(go_call aD.o as e w4 ⟨rfl,au,t4⟩;have az:=κ au;have aE:=κ t4;clear au t4)))
      go_ret;exact⟨rfl,az.o,(d.o.at.stay I.o).trans (ac.o.2.trans aE.o)⟩
     ·have ag:=Vr (t:=s.tab) (x:=x) (p:=p) (by rw[H];exact e0);have G:Hid (s.subscribe x p n=(s,U)):=κ (by rw[ai,ώ e0]);rw[H,ag] at O;have aF:(U != 0)=ό:=by simp[e0]
      rw[G.o];clear J hl af aj aa H ab ai ag e0
      go_enter func46,ntmps46
      go_wp2_with (first | (go_at_call 89;(go_call Y.o _ as e w1 ⟨rfl,N⟩;obtain rfl:=N)) | (go_at_call 69;(go_call ah.o as e w2 ⟨rfl,M⟩;have I:=κ M;have ar:=β11 (qq M d.o.blk);clear M)) | (go_at_call 105;(go_call O.o _ I.o as e aK ⟨rfl,ae,a3⟩;have ac:=κ (KK (d.o.on I.o) ae a3);clear ae a3)))
      go_ret;exact⟨rfl,ac.o.1,(d.o.at.stay I.o).trans ac.o.2⟩
section
open Go.RowKit Go.Lib
def TL (w:World):Calls prog 317 #[δ ϋ 0 0] w λe w'=>e= .returned (δ ϋ 0 0)/\w'=w:=by
 go_enter func317,ntmps317
 go_wp2
 go_loopw [3,10] (λv d wr=>v= δ ϋ 0 0/\d= ι 0/\wr=w) (λ_ _ _=>0)
 case atStart=>exact⟨rfl,rfl,rfl⟩
 case round=>
  obtain⟨rfl,rfl,rfl⟩:=hrel;go_wp2;go_ret;exact⟨rfl,rfl⟩
def An (d:Int) (w:World):Calls prog 314 #[θ #[ι 1,ω 0,ω d,(),()]] w λe w'=>e= .returned (μ ό)/\ql w w':=by
 go_enter func314,ntmps314
 go_wp2;go_ret;exact⟨rfl,ρ⟩
def Lm (w:World):Calls prog 313 #[Γd] w λe w'=>e= .returned (μ ό)/\ql w w':=by
 have d: ∀w:World,(binOp .eql 286 (θ #[ω 0,ω 0,ω 0,ω 0,ω 0]) (θ #[ω 0,ω 0,ω 0,ω 0,ω 0])).run prog w= .ok (μ ό) w:=λw=>by kernel_rfl
 go_enter func313,ntmps313
 go_wp2;go_ret;exact⟨rfl,ρ⟩
def Ln (w:World):Calls prog 311 #[θ #[υ 0,υ 0,()]] w λe w'=>e= .returned (μ ό)/\ql w w':=by
 go_enter func311,ntmps311
 go_wp2;go_ret;exact⟨rfl,ρ⟩
def qaj (w:World):Calls prog 318 #[ι 1] w λe w'=>e= .returned (.tuple #[υ 206,υ 1])/\w'=w:=by
 go_enter func318,ntmps318
 go_wp2
 go_ret2
 exact⟨rfl,rfl⟩
def gA (d:Int):(qy 0 4++qy d 4).length=8:=by rw[Ϗ,Hw,Hw]
def Lk (d:Int) (ap:0<=d/\d<=4294967295) (w:World):Calls prog 289 #[θ #[ι 1,ω 0,ω d,(),()]] w λe w'=> ∃ob cb,e= .returned (.tuple #[θ #[υ 1,υ 206,δ ob 8 cb],ι 0])/\SlI .u8 w' (δ ob 8 cb) (qy 0 4++qy d 4)/\ql w w'/\jX w (δ ob 8 cb):=by
 have aj:=κ (qs (qj w (.cells #[ι 1,ω 0,ω d,(),()] 283)) (.cells #[υ 0,υ 0,()] 291));have ak:=κ (qC (w:=w.alloc (.cells #[ι 1,ω 0,ω d,(),()] 283)) (n:=w.heap.size+1) (o:=(.cells #[υ 0,υ 0,()] 291)) η);have aw:=κ ap;clear ap
 go_enter func289,ntmps289
 go_wp2_with (first | (go_at_call 314;(go_call An d _ as e Y ⟨rfl,O⟩;have I:=κ (qq O aj.o);have am:=κ (qq O ak.o);have an:=κ (((ql.alloc w (.cells #[ι 1,ω 0,ω d,(),()] 283)).al (.cells #[υ 0,υ 0,()] 291)).trans O);clear O;have ae:=κ (wR Y);have ab:=κ (ql.alloc Y (.cells #[δ ϋ 0 0] 204));have ay:=β1 (qq ab.o I.o))) | (go_at_call 95;((with_reducible refine(uw ae.o 0 ζ η).mono ?_);rintro e w4 ⟨rfl,J⟩;have ac:=κ (J.to_more ae.o ab.o (ϕ _));obtain⟨⟨v4,au,_⟩,_⟩:=J;have af:=κ au;clear au ay;have az:=β2 (qq ac.o I.o))) | (go_at_call 95;((with_reducible refine(uw af.o d aw.o (by simp only[Ϗ,Hw,Ϫ];omega)).mono ?_);rintro e w5 ⟨rfl,J⟩;have H:=κ (J.to_more af.o ac.o (ϕ _));obtain⟨⟨v5,av,_⟩,_⟩:=J;have ag:=κ av;clear av az;have aM:=β3 (qq H.o I.o);have aN:=β4 (qq H.o I.o);have aL:=β0 (qq H.o I.o))))
 clear ae af ab ac aj ak;have aD:Hid (w.heap.size+1<Y.heap.size):=κ (qn am.o);rw[I3] at ag;generalize Y.heap.size=W at *
 go_loopw [24] (λah wr=>ah= ι 0/\wr=w5) (λ_ _=>0)
 case atStart=>exact⟨rfl,rfl⟩
 case round=>
  obtain⟨rfl,rfl⟩:=hrel
  go_wp2_with (go_at_call 317;(go_call TL _ as e w6 ⟨rfl,rfl⟩))
  go_loopw [40] (λah aK=>ah= ι 0/\aK=w6) (λ_ _=>0)
  case atStart=>exact⟨rfl,rfl⟩
  case round=>
   obtain⟨rfl,rfl⟩:=hrel
   go_wp2_with (first | (go_at_call 318;(go_call qaj _ as e aV ⟨rfl,rfl⟩)) | (go_at_call 97;(go_call wZ ag.o (by rw[gA];decide) as e aa ⟨v51,rfl,U,ai⟩;rw[gA] at U;have ad:=κ U;have ax:=κ ai;have G:=κ (qq ai (qq H.o am.o));obtain⟨M,c5,rfl,-⟩:=GG U;clear U ai;have aO:=β0 G.o;have aP:=β1 G.o;have aQ:=β2 G.o;have aR:=yw G.o 0;have aS:=yw G.o 1;have aT:=yw G.o 2)))
   have N:=WC G.o (υ 1) (υ 206) (δ M 8 c5);have aq:=(((an.o.trans H.o).trans ax.o)).st3 (w.heap.size+1) τ (υ 1) (υ 206) (δ M 8 c5);have a3:jt (λb=>b=w.heap.size+1) aa (((aa.setCell ⟨w.heap.size+1,0,ϋ⟩ (υ 1)).setCell ⟨w.heap.size+1,1,ϋ⟩ (υ 206)).setCell ⟨w.heap.size+1,2,ϋ⟩ (δ M 8 c5)):=
    (((jt.refl (λb=>b=w.heap.size+1) aa).set (p:=⟨w.heap.size+1,0,ϋ⟩) rfl _).set (p:=⟨w.heap.size+1,1,ϋ⟩) rfl _).set (p:=⟨w.heap.size+1,2,ϋ⟩) rfl _
   have ar:=XC ad.o a3 (λb aE e=>by have aA:=jG ad.o aE;have aB:=H.o.size;have aC:=aD.o;have aU:=qn ag.o.blk;omega);obtain⟨WF,ao⟩:=ν ((((aa.setCell ⟨w.heap.size+1,0,ϋ⟩ (υ 1)).setCell ⟨w.heap.size+1,1,ϋ⟩ (υ 206)).setCell ⟨w.heap.size+1,2,ϋ⟩ (δ M 8 c5)));rw[ao] at N aq ar ⊢;clear ao a3;have aH:=β0 N;have aI:=β1 N;have aJ:=β2 N
   (refine bodyPost_ret (v:= .tuple #[θ #[υ 1,υ 206,δ M 8 c5],ι 0]) ?rr1 rfl ?_;(case rr1=>(simp[results,results289,go_sem,aH,aI,aJ])))
   have aG:=SlI.of_owns (l:=qy 0 4++qy d 4) (by rw[gA];exact ar) (by rw[gA];decide);exact⟨_,_,rfl,aG,aq,λg aF=>by have aA:=jG ad.o aF;have aB:=H.o.size;have aC:=an.o.size;omega⟩
def FM (G:Int) (w:World):Calls prog 287 #[θ #[ι 2,ύ,ω 0,ω 0,ω 0,ω 0,ω 0,ω 0,(),ι 1,ω 0,ω G,(),(),υ 0,υ 0,()]] w λe w'=>e= .returned (μ ό)/\ql w w':=by
 go_enter func287,ntmps287
 go_wp2_with (first | (go_at_call 313;(go_call Lm _ as e w1 ⟨rfl,m⟩;have H:=κ ((ql.alloc w _).trans m);have d:=κ (qq m (qj w _));obtain⟨⟨N,O,af,ag,ah,ai,aj,ak,al⟩,⟨am,U,Y,aa,ab⟩,ac,ad,ae⟩:=JC d.o;clear m)) | (go_at_call 311;(go_call Ln _ as e w2 ⟨rfl,m⟩;have I:=κ (H.o.trans m);have M:=κ (qq m d.o);obtain⟨⟨N,O,af,ag,ah,ai,aj,ak,al⟩,⟨am,U,Y,aa,ab⟩,ac,ad,ae⟩:=JC M.o;clear m)) | (go_at_call 314;(go_call An G _ as e an ⟨rfl,m⟩;have J:=κ (I.o.trans m);clear m)))
 go_ret;exact⟨rfl,J.o⟩
def CH (d:Int) (ai:0<=d/\d<=4294967295) (w:World):Calls prog 259 #[θ #[ι 2,ύ,ω 0,ω 0,ω 0,ω 0,ω 0,ω 0,(),ι 1,ω 0,ω d,(),(),υ 0,υ 0,()]] w λe w'=> ∃ob cb,e= .returned (.tuple #[θ #[υ 1,υ 206,δ ob 8 cb],ι 0])/\SlI .u8 w' (δ ob 8 cb) (qy 0 4++qy d 4)/\ql w w'/\jX w (δ ob 8 cb):=by
 obtain⟨J,H⟩:=ν ((w.alloc (.cells #[ι 2,ύ,ω 0,ω 0,ω 0,ω 0,ω 0,ω 0,(),ι 1,ω 0,ω d,(),(),υ 0,υ 0,()] 293)).alloc (.cells #[υ 0,υ 0,()] 291));have ae:Hid (ql w J):=κ (by rw[<-H];exact W4.al _);have aa:Hid (J.heap[w.heap.size]? =ϊ (.cells #[ι 2,ύ,ω 0,ω 0,ω 0,ω 0,ω 0,ω 0,(),ι 1,ω 0,ω d,(),(),υ 0,υ 0,()] 293)):=κ (by rw[<-H];exact qs (qj w _) _);have ad:Hid (J.heap[w.heap.size+1]? =ϊ (.cells #[υ 0,υ 0,()] 291)):=κ (by rw[<-H];exact qC η)
 go_enter func259,ntmps259
 go_upto_region 1 with fail
 (try rw[H])
 clear H;obtain⟨⟨aj,ak,av,aw,ax,ay,az,aA,aB⟩,⟨aC,am,an,ao,ap⟩,aq,ar,au⟩:=JC aa.o
 go_wp2_with (first | (go_at_call 287;(go_call FM d _ as e w1 ⟨rfl,m⟩;have U:=κ (ae.o.trans m);have ah:=κ (qq m aa.o);have O:=κ (qq m ad.o);obtain⟨⟨aj,ak,av,aw,ax,ay,az,aA,aB⟩,⟨aC,am,an,ao,ap⟩,aq,ar,au⟩:=JC ah.o;clear m)) | (go_at_call 289;(go_call Lk d ai _ as e w2 ⟨o2,c2,rfl,s2,N,n2⟩;have ag:=κ s2;have Y:=κ n2;have af:=κ (U.o.trans N);have G:=κ (qq N O.o);have aG:=β0 G.o;have aH:=β1 G.o;have aI:=β2 G.o;have aJ:=yw G.o 0;have aK:=yw G.o 1;have aL:=yw G.o 2;clear s2 N n2)))
 have I:=WC G.o (υ 1) (υ 206) (δ o2 8 c2);have a3:jt (λb=>b=w.heap.size+1) w2 (((w2.setCell ⟨w.heap.size+1,0,ϋ⟩ (υ 1)).setCell ⟨w.heap.size+1,1,ϋ⟩ (υ 206)).setCell ⟨w.heap.size+1,2,ϋ⟩ (δ o2 8 c2)):=(((jt.refl (λb=>b=w.heap.size+1) w2).set (p:=⟨w.heap.size+1,0,ϋ⟩) rfl _).set (p:=⟨w.heap.size+1,1,ϋ⟩) rfl _).set (p:=⟨w.heap.size+1,2,ϋ⟩) rfl _;have ac:=jt.to_more af.o a3 (λb e=>by omega);have sf:=ag.o.off2 (λ_ b M (e:b=w.heap.size+1)=>by have:=Y.o b M;have:=qn O.o;omega) a3;obtain⟨WF,ab⟩:=ν ((((w2.setCell ⟨w.heap.size+1,0,ϋ⟩ (υ 1)).setCell ⟨w.heap.size+1,1,ϋ⟩ (υ 206)).setCell ⟨w.heap.size+1,2,ϋ⟩ (δ o2 8 c2)));rw[ab] at I ac sf ⊢;clear ab a3;have aD:=β0 I;have aE:=β1 I;have aF:=β2 I
 (refine bodyPost_ret (v:= .tuple #[θ #[υ 1,υ 206,δ o2 8 c2],ι 0]) ?rr2 rfl ?_;(case rr2=>(simp[results,results259,go_sem,aD,aE,aF])))
 exact⟨_,_,rfl,sf,ac,λb M=>Ϙ U.o.size (Y.o b M)⟩
def WN (n s:Int):Byt (qy n s):=by
 unfold qy;split
 ·exact JF _ _
 ·exact xh
def Ex (d:Int):xk (Zb d):=⟨⟨by show (0:Int)<=1;decide,by show (1:Int)<=255;decide⟩,⟨by show (0:Int)<=206;decide,by show (206:Int)<=255;decide⟩,zZ (WN 0 4) (WN d 4)⟩
def FN (d:Int) (av:0<=d/\d<=4294967295) (b cap:Nat) (w:World) (aK:b<w.heap.size) (ag:w.rangeAt b 0 [ι 2,ύ,ω 0,ω 0,ω 0,ω 0,ω 0,ω 0,(),ι 1,ω 0,ω d,(),(),υ 0,υ 0,()]):Calls prog 205 #[δ (ϊ ⟨b,0,ϋ⟩) 1 cap] w λe w'=> ∃vx,e= .returned (.tuple #[vx,ι 0])/\SlP 3 yH w' vx [Zb d]/\ql w w':=by
 obtain⟨aB,hi,aw,ax,ay⟩:=info_parts (P:=prog) (e:=291) (z:= θ #[υ 0,υ 0,()]) (size:=3) (bytes:=32) ξ;obtain⟨aC,aD,aE,aF,aG⟩:=info_parts (P:=prog) (e:=29) (z:= ι 0) (size:=1) (bytes:=8) ξ;have am:=κ ag;have an:Hid (ChJ w w (δ ϋ 0 0) (δ ϋ 0 0) [] []):=κ ⟨je.nil _ _ _ _ _ _,World.ownsRow_nil _ _ _ _,ql.refl _⟩;clear ag
 go_enter func205,ntmps205
 go_wp2
 go_loopw [4,5,12] (λu v H wr=>(H= ι 0/\u= δ ϋ 0 0/\v= δ ϋ 0 0/\wr=w)∨(H= ι 1/\ ∃ac Y M ad aa N,u= δ ac Y M/\v= δ ad aa N/\ChJ w wr (δ ac Y M) (δ ad aa N) [Zb d] [0])) (λ_ _ H _=>1-(intOf H).toNat)
 case atStart=>exact ϒ ⟨rfl,rfl,rfl,rfl⟩
 case round=>
  rcases hrel with ⟨rfl,rfl,rfl,rfl⟩ | ⟨rfl,ac,Y,M,ad,aa,N,rfl,rfl,af⟩
  ·go_wp2_with (first | (refine wpList_load_mid rfl 293 (.tmp 14) rfl b 0 rfl [ι 2,ύ,ω 0,ω 0,ω 0,ω 0,ω 0,ω 0,(),ι 1,ω 0,ω d,(),(),υ 0,υ 0,()] _ am.o underlying293 rfl ξ ?_) | (refine jU rfl 293 (.tmp 7) (.tmp 15) rfl wr _ #[ι 2,ύ,ω 0,ω 0,ω 0,ω 0,ω 0,ω 0,(),ι 1,ω 0,ω d,(),(),υ 0,υ 0,()] rfl rfl rfl ξ rfl rfl ?_) | (refine wpList_load_row rfl 293 (.tmp 7) rfl wr.heap.size rfl _ #[ι 2,ύ,ω 0,ω 0,ω 0,ω 0,ω 0,ω 0,(),ι 1,ω 0,ω d,(),(),υ 0,υ 0,()] _ _ (heap_alloc_new wr _) underlying293 rfl ξ ?_) | (go_at_call 259;(go_call CH d av _ as e w1 ⟨ab,ae,rfl,s1,ak,aH⟩;have aq:=κ s1;have ap:=κ ((ql.alloc wr (.cells #[ι 2,ύ,ω 0,ω 0,ω 0,ω 0,ω 0,ω 0,(),ι 1,ω 0,ω d,(),(),υ 0,υ 0,()] 293)).trans ak);have G:=κ ((an.o.on ap.o).on ((ql.alloc w1 (.cells #[υ 1,υ 206,δ ab 8 ae] 291)).al (.cells #[υ 1,υ 206,δ ab 8 ae] 291)));clear s1 ak aH)) | (at_builtin;refine jN _ rfl (.tmp 21) (.tmp 23) 385 rfl wr.heap.size 291 aB (θ #[υ 0,υ 0,()]) 3 32 underlying385 hi aw ax ay rfl ζ _ [] rfl G.o.row (w1.heap.size+1) [υ 1,υ 206,δ ab 8 ae] (Zb d) rfl rfl (zS η) W5 ((Dd (c:=Zb d) aq.o (Ex d) (λ_ g _ h=>by rcases h with h | h<;>cases h)).on (W4.al _)) (λb h=>gB G.o.errs h) ζ ζ G.o.more.size ?_;intro aO w8 O ah au;have J:=κ (G.o.put O ah);obtain⟨aM,aL,aI,rfl,az,aA⟩:=O.shape;clear O ah au az aA) | (at_builtin;refine qU _ rfl (.tmp 25) (.tmp 27) 416 rfl wr.heap.size 29 aC (ι 0) 8 underlying416 aD aE aF aG rfl _ .i64 [] rfl (J.o.on W4).errs _ [0] rfl (SlI.lit .i64 w8 [0] 29 _ 1 _ rfl rfl rfl η) η ζ (by have:=J.o.more.size;simp;omega) ?_;intro v9 w9 U ai aj;have ao:=κ ((J.o.on W4).err (E':=[0]) U ai aj);obtain⟨aN,aJ,ar⟩:=xl U;subst ar;clear U ai aj))
   go_roundw
   case rel=>exact ϔ ⟨by go_num,_,_,_,_,_,_,rfl,rfl,ao.o⟩
   case measure=>simp[intOf]
  ·have I:=κ af;clear af
   go_wp2_with (go_at_call 242;(go_call gh [0] _ _ (SlI.of_owns I.o.errs ζ) as e aP ⟨rfl,rfl⟩))
   go_ret2
   exact⟨_,rfl,I.o.row.sl ζ,I.o.more⟩
def Vs (d:Int):[Zb d].length<=100000/\ ∀i,i<[Zb d].length->([Zb d].getD i xu).2.2.1.length<=1000000:=by
 refine⟨η,λi hi=> ?_⟩;obtain rfl:i=0:=by simpa using hi
 show (qy 0 4++qy d 4).length<=1000000;rw[gA]
 decide
def FL (d:Int) (ab:0<=d/\d<=4294967295) {b t:Nat} (cap:Nat) (w:World) (H:w.heap[b]? =ϊ (.cells #[ι 2,ύ,ω 0,ω 0,ω 0,ω 0,ω 0,ω 0,(),ι 1,ω 0,ω d,(),(),υ 0,υ 0,()] t (0,0))):Calls prog 144 #[δ (ϊ ⟨b,0,ϋ⟩) 1 cap] w λe w'=> ∃G er,e= .returned (.tuple #[G,ι er])/\SlI .u8 w' G (ug d)/\ql w w'/\ ∀g,G.ownBlock=ϊ g->w.heap.size<=g:=by
 have N:=κ (FN d ab b cap w (qn H) (λj v ac=>by rw[D8];exact qm H j (by simpa using ac)));clear H
 go_enter func144,ntmps144
 go_wp2_with (first | (go_at_call 205;(go_call N.o as e w1 ⟨G,rfl,s1,J⟩;have Y:=κ s1;have I:=κ J;clear s1 J)) | (go_at_call 206;(go_call Dy G [Zb d] _ Y.o (Vs d).1 (Vs d).2 as e w2 ⟨ad,rfl,s2,M,n2⟩;have aa:=κ s2;have O:=κ (I.o.trans M);have U:=κ (λ(b:Nat) (hb:ad.ownBlock=ϊ b)=>Ϙ I.o.size (n2 b hb));clear s2 M n2)))
 go_ret2
 exact⟨_,_,rfl,aa.o,O.o,U.o⟩
end
def CF (bj:qI w0 w k s F) (G o2:Int) (aK: ∀o v,qh s.tab.s o=ϊ v->0<=v/\v<=4294967295) (bA:s.reqs.length<=1000000):
  Calls prog 86 #[γ k.R,θ #[ι G,ι o2]] w λe w'=>e= .returned (.tuple #[])/\qI w0 w' k (s.request (G,o2)) F/\qw F w w':=by
 obtain⟨T,vp,bD,h⟩:=bj;obtain⟨W1,ae⟩:=ν (w.alloc (.cells #[ι G,ι o2] 58));have ap:Hid (ql w W1):=κ (by rw[<-ae];exact ql.alloc _ _);have aw:Hid (W1.heap[w.heap.size]? =ϊ (.cells #[ι G,ι o2] 58 (0,0))):=κ (by rw[<-ae];exact qj w _);have aa:=κ (h.on ap.o);have bh:=κ (h.at.stay ap.o);have ay:=κ h.fresh;obtain⟨d,ag⟩:=ν ((qh s.tab.s (G,o2)).getD 0)
 have bd:Hid (0<=d/\d<=4294967295):=κ (by
  rw[<-ag];cases hm:qh s.tab.s (G,o2) with
  | none=>exact⟨ζ,ζ⟩
  | some v=>exact aK _ v hm)
 have bc:Hid (s.request (G,o2)={s with reqs:=s.reqs++[⟨(G,o2),s.clock,ug d⟩]}):=κ (by unfold RmS.request;rw[ag]);have az:=κ (CC (aa.o.tab.more (ql.drewN W1 1)) (G,o2));rw[ag] at az;clear ag aK h;have aY:=λ(x:qt W1)=>β11 (qq x.h aa.o.blk)
 have am:=λ(x:qt W1)=>qq x.h aw.o
 have ai:=λx=>β0 (am x);have aj:=λx=>β1 (am x);clear am
 go_enter func86,ntmps86
 go_upto_region 1 with fail
 (try rw[ae])
 clear ae;refine Qn W1 11 11 [5] ?_
 refine Qq5 ?_
 (refine Ql ?_;intro K H)
 (with_reducible refine az.o.mono ?_)
 rintro e w2 ⟨rfl,aM⟩;have ad:Hid (ql W1 w2):=κ ((ql.drewN W1 1).trans aM);clear aM;refine⟨_,rfl,qk ad.o,H _ _ ?_⟩;clear H K
 iterate 5 (refine qE rfl rfl (qk ad.o) ?_;intro K H;go_big_quiet_op;go_big_quiet_on)
 refine qA ?_;clear aY ai aj;obtain⟨ar,af⟩:=ν ((w2.alloc (.cells #[ι 1,ω 0,ω d,(),()] 283)).alloc (.cells #[ι 2,ύ,ω 0,ω 0,ω 0,ω 0,ω 0,ω 0,(),ι 1,ω 0,ω d,(),(),υ 0,υ 0,()] 293));have aC:Hid (ql w2 ar):=κ (by rw[<-af];exact W4.al _);have bg:Hid (ar.heap[w2.heap.size+1]? =ϊ (.cells #[ι 2,ύ,ω 0,ω 0,ω 0,ω 0,ω 0,ω 0,(),ι 1,ω 0,ω d,(),(),υ 0,υ 0,()] 293 (0,0))):=κ (by rw[<-af];exact qC η);have aB:=κ (FL d bd.o 1 ar bg.o)
 go_upto_region 4 with (first | (refine jU rfl 283 (.tmp 6) (.tmp 19) rfl w2 _ #[ι 1,ω 0,ω d,(),()] rfl rfl rfl ξ rfl rfl ?_) | (refine wpList_load_row rfl 283 (.tmp 6) rfl w2.heap.size rfl _ #[ι 1,ω 0,ω d,(),()] _ _ (heap_alloc_new w2 _) underlying283 rfl ξ ?_) | ((try rw[af]);(go_at_call 144;(go_call aB.o as e w5 ⟨bE,bu,rfl,av,aN,aO⟩;have aD:=κ av;have be:Hid (ql w2 w5):=κ (aC.o.trans aN);have bf:=κ (λb I=>Ϙ aC.o.size (aO b I));obtain⟨Y,U,rfl,_⟩:=id av;clear av aN aO))))
 clear af aB;have aq:Hid (ql W1 w5):=κ (ad.o.trans be.o);have aV:=aa.o.on aq.o;have bi:=κ (bh.o.trans (aa.o.at.stay aq.o));have bB:=aa.o.more.size
 obtain⟨J,aW,aF,aG⟩:=aV.data (λb=>ug d≠[]/\(δ Y (ug d).length U).ownBlock=ϊ b) (λb I=>by
  have bw:=bf.o b I.2;have bx:=ad.o.size;have bz:=ap.o.size
  exact⟨ay.o b τ,τ,aD.o.old I.1 I.2,λhF=>by have:=(aa.o.law b hF).2.2;omega⟩)
 have O:=κ aW;have aA:=κ aF;clear aW aF aV;have aX:=κ (qq aq.o aw.o);obtain⟨N,_,M,rfl,rfl,_⟩:=(O.o.all .reqs).1.shape;obtain⟨_,aL⟩:=O.o.all .reqs;have ak:=κ aL;clear aL;have aQ: ¬(δ N s.reqs.length M).ownBlock=ϊ k.R:=λe=>by have:=ak.o _ e;rw[(O.o.all .room).1] at this;cases this
 have aJ:J w.heap.size= .no∨J w.heap.size= .data:=by
  by_cases e:ug d≠[]/\(δ Y (ug d).length U).ownBlock=ϊ w.heap.size
  ·exact ϔ (aA.o _ e)
  ·exact ϒ (by rw[aG _ e];exact ay.o _ (ϕ _))
 have bs: ¬(δ N s.reqs.length M).ownBlock=ϊ w.heap.size:=λe=>by have:=ak.o _ e;rcases aJ with q | q<;>rw[q] at this<;>cases this
 clear aJ aG;have an:=λ(x:qz (λb=>(δ N s.reqs.length M).ownBlock=ϊ b) w5)=>x.h.blk O.o.blk aQ
 have aZ:=λx=>β15 (an x);have ba:=λx=>β9 (an x);clear an
 have ao:=λ(x:qz (λb=>(δ N s.reqs.length M).ownBlock=ϊ b) w5)=>x.h.blk aX.o bs
 have ai:=λx=>β0 (ao x);have aj:=λx=>β1 (ao x);clear ao
 obtain⟨br,hi,bo,bp,bq⟩:=info_parts (P:=prog) (e:=296) (z:= θ #[ι 0,ι 0,ι 0,()]) (size:=4) (bytes:=48) ξ;refine QN (λb=>(δ N s.reqs.length M).ownBlock=ϊ b) w5 16 17 [12,13,14,16] ?_
 refine Nz ?_
 clear aZ ba ai aj
 (refine Ql ?_;intro K H)
 refine⟨qi (((jt.refl _ w5).drewN 1).alc _),H _ _ ?_⟩;clear H K;have bn: ∀g,(δ N s.reqs.length M).ownBlock=ϊ g->J g= .reqs:=ak.o;have aT:=(((O.o.all .reqs).1.on (ql.drewN w5 1)).on (ql.alloc _ (.cells #[ι G,ι o2,ι s.clock,δ Y (ug d).length U] 296))).other (D':=λb=>(J b≠ .data/\J b≠ .reqs)/\b<w5.heap.size) (λb I=>ϒ I.1);have aU:=(aD.o.keep (ql.drewN w5 1)).keep (ql.alloc _ (.cells #[ι G,ι o2,ι s.clock,δ Y (ug d).length U] 296));have aS:jw RRq (λb=>((J b≠ .data/\J b≠ .reqs)/\b<w5.heap.size)∨(δ N s.reqs.length M).ownBlock=ϊ b) ((w5.drewN 1).alloc (.cells #[ι G,ι o2,ι s.clock,δ Y (ug d).length U] 296)) [ι G,ι o2,ι s.clock,δ Y (ug d).length U] ⟨(G,o2),s.clock,ug d⟩:=λw' a=>
  ⟨_,rfl,aU.off2 (λbm b I ac=>by
   have e:=aA.o b ⟨bm,I⟩;rcases ac with ac | ac
   ·exact ac.1.1 e
   ·rw[bn b ac] at e;cases e) a⟩
 refine jR rfl rfl ?_;intro K H
 refine zK (.tmp 31) (.tmp 39) 93 rfl 0 296 br (θ #[ι 0,ι 0,ι 0,()]) 4 48 underlying93 hi bo bp bq rfl ζ _ s.reqs rfl aT w5.heap.size [ι G,ι o2,ι s.clock,δ Y (ug d).length U] ⟨(G,o2),s.clock,ug d⟩ rfl rfl (kX rfl) W5 aS (λb I=>by
  have:=I.2;have:=(((ql.drewN w5 1)).al (.cells #[ι G,ι o2,ι s.clock,δ Y (ug d).length U] 296)).size
  omega) ζ τ (Ψ _) ?_
 intro bC w6 au aI aH;have ab:Hid (jt (λb=>(δ N s.reqs.length M).ownBlock=ϊ b) w5 w6):=κ ((((jt.refl _ w5).drewN 1).alc _).trans (jt.of_grown aI));obtain⟨aR,aP,aE,rfl,bk,bl⟩:=au.shape;have ah:=κ (ab.o.blk O.o.blk aQ);have bb:(J k.R≠ .data/\J k.R≠ .reqs)/\k.R<w5.heap.size:=⟨by rw[(O.o.all .room).1];exact⟨η,η⟩,O.o.lt⟩;have ax:=κ (O.o.reqsPut (y:=⟨(G,o2),s.clock,ug d⟩) ((ab.o.mono (S':=λb=>(δ N s.reqs.length M).ownBlock=ϊ b∨b=k.R) (λb I=>ϒ I)).set (p:=⟨k.R,15,ϋ⟩) (ϔ rfl) (δ aR aP aE)) (((ql.drewN w5 1)).al (.cells #[ι G,ι o2,ι s.clock,δ Y (ug d).length U] 296)).size (au.step (jt.set (S:=λb=>(J b≠ .data/\J b≠ .reqs)/\b<w5.heap.size) (jt.refl _ _) (p:=⟨k.R,15,ϋ⟩) bb (δ aR aP aE))) aH (qB (qp ah.o 15 _) rfl));have bt:w6.cell? ⟨k.R,15,ϋ⟩=ϊ (δ N s.reqs.length M):=qm ah.o 15 rfl;have bv:w6.frozen? ⟨k.R,15,ϋ⟩=ύ:=yw ah.o 15;clear au aI aH aT aS aU bk bl;refine⟨qi ab.o,H _ _ ?_⟩;clear H K;go_simp
 (refine Ql ?_;intro K H)
 refine⟨qi ab.o,H _ _ ?_⟩;clear H K
 iterate 1 (refine qE rfl rfl (qi ab.o) ?_;intro K H;go_big_quiet_op;go_big_quiet_on)
 (refine Qe ?_;intro K H)
 refine H _ _ ?_;clear H K;refine qA ?_;go_wp2
 (refine bodyPost_end (v:= .tuple #[]) ?re1 rfl ?_;(case re1=>simp[results,results86,go_sem]))
 exact⟨rfl,by rw[bc.o];exact ax.o.1,bi.o.trans ax.o.2⟩
def xw {P:Program} {o:Oper} {a:Act} {C:World->Prop} {K:Act->World->Prop} (G:TypeId) (x y:Operand) (J:o.op= .store G x y)
  (g:Nat) (t:TypeId) (c d:Array Value) (I:w.heap[g]? =ϊ (.cells c t (0,0))) (N:a.eval x= γ g) (O:a.eval y= θ d)
  (hi:(P.info? G).map (·.size)=ϊ d.size) (M:c.size=d.size) (H:d.all (·.oneCell')=ό)
  (h:C (w.setRow g d)/\K (a.put o.dst undef) (w.setRow g d)):jn P C o a w K:=by
 unfold jn execOp;simp only[J,N,O,Instr.storeAt,Instr.sureAddr,Sem.run_bind,Sem.run_pure,Result.andThen_ok,run_storeVar_row w g t G c d I hi M H];exact h
def ql.row (h:ql w w') {g:Nat} (G:w.heap.size<=g) (cs:Array Value):ql w (w'.setRow g cs):=jt.to_more h (jt.setRow w' g cs) (λb d=>by rw[d];exact G)
def Tk.subs {m:Nat} {d:Int} (h:Tk m d s s') (k:zc s):zc s':=⟨by rw[h.tab];exact k.keys,by rw[h.tab,h.lanes];exact k.lane,by rw[h.tab];exact k.few⟩
def qV.subs (h:qV n s) (d:n<=1000):zc s:=⟨h.tb.keys,h.tb.lane,Ϙ h.num.few τ⟩
def Hn (aV:qI w0 w k s F) (bH:qV n s) (cu:n<=1000):
  Calls prog 34 #[γ k.R] w λe w'=>e= .returned (ι s.tick.2)/\qI w0 w' k s.tick.1 F/\qw F w w':=by
 have bl:=κ aV;have an:=κ bH;obtain⟨vp,cC,aA⟩:=aV.blk;have bC:=β7 aA;have co:=β9 aA;have cq:=yw aA 9;obtain⟨cp,ba⟩:=ν (s.closed);rw[ba] at bC;have bm:=κ ba;clear ba aA aV bH;cases cp with
 | true=>
  have aC:Hid (s.tick=(s,7)):=κ (by unfold RmS.tick;rw[ϐ bm.o]);rw[aC.o]
  go_enter func34,ntmps34
  go_wp2;go_ret;exact⟨rfl,bl.o,qw.refl _ _⟩
 | false=>
  obtain⟨cO,cP⟩:=an.o.num.clock;have aP:=κ (bl.o.cell 9 (ι (s.clock+1)) (s':={s with clock:=s.clock+1}) (λ_ _=>rfl) ⟨rfl,rfl,rfl,rfl,rfl,rfl,rfl,rfl,rfl⟩);obtain⟨s1,aL⟩: ∃s1:RmS,{s with clock:=s.clock+1}=s1:=⟨_,rfl⟩;obtain⟨J,bb⟩:=ν (s.origins);have aC:Hid (s.tick=(J.foldl RmS.tick1 s1,0)):=κ (by unfold RmS.tick;rw[ώ (by rw[bm.o];decide),bb,aL])
  have aq:Hid (zc s1/\xY s1.cfg=ό/\(0<=s1.clock/\s1.clock<=1001)/\(∀o t,qh s1.strs o=ϊ t->0<=t.asks.tries/\t.asks.tries<=9000/\0<=t.asks.last/\t.asks.last<=1000)/\s1.reqs.length<=9000/\(∀o v,qh s1.tab.s o=ϊ v->0<=v/\v<=4294967295)/\s1.origins=J):=κ (by
   rw[<-aL];have cr:=an.o.num.asks;have aK:=an.o.num.reqs;have bd:=an.o.subs cu
   exact⟨⟨bd.keys,bd.lane,bd.few⟩,an.o.num.cfg,by simp only;omega,λo t ay=>by have:=cr o t ay;omega,by simp only;omega,an.o.tb.src,bb⟩)
  obtain⟨W1,aX⟩:=ν (w.setCell ⟨k.R,9,ϋ⟩ (ι (s.clock+1)));rw[aL,aX] at aP;obtain⟨T,vp,cC,bN⟩:=aP.o.1;have bu:=κ bN;have bp:=κ bu.o.orgsF;rw[aq.o.2.2.2.2.2.2] at bp;clear bN aL bb
  go_enter func34,ntmps34
  go_wp2_with ((try rw[aX]);(go_at_call 64;(go_call bp.o as e w2 ⟨da,cap,Fn,rfl,bF,bV,bR,bK⟩;have ce:=κ bK;have ca:=κ bV.at;have cg:=κ bR;have cb:=κ bF;clear bK bV bR bF)))
  clear aX co cq bC;have ci:=κ (aP.o.2.trans (bu.o.at.stay cg.o));have cZ:=cb.o
  go_loopw [22] (λbg wr=> ∃j:Nat,j<=J.length/\bg= ι j/\qI w0 wr k ((J.take j).foldl RmS.tick1 s1) (Fn++F)/\qw (Fn++F) w2 wr) (λbg _=>J.length-(intOf bg).toNat)
  case atStart=>exact⟨0,τ,rfl,ca.o,qw.refl _ _⟩
  case round=>
   obtain⟨j,cY,rfl,aK,ay⟩:=hrel;have aR:=κ ay;by_cases hlt:j<J.length
   ·have ct:(j:Int)<(J.length:Int):=by omega
    obtain⟨g,rfl,bB,c1⟩:=ce.o wr (λb Y=>ay.2 b (by simp[Y])) j hlt;have bt:Hid (J.take (j+1)=J.take j++[J[j]]):=κ (by rw[A8,ϖ hlt];rfl);have ak:=κ (ur (J.take j) s1);have bI:(J.take j).length<=9:=by rw[Ϡ];omega
    have bo:=κ bI;obtain⟨ts,bM⟩: ∃t,qh s1.strs J[j]=ϊ t:=yB (by rw[aq.o.2.2.2.2.2.2];exact ϛ hlt);generalize J[j]=o at *;generalize bL:(J.take j).foldl RmS.tick1 s1=sj at *;have bs:=κ bL;clear bL ay bI;obtain⟨t,be⟩: ∃t,qh sj.strs o=ϊ t:=by
     have:=yt (ak.o.strs o);rw[bM] at this;exact Ϥ.1 this
    have aD:=κ be;have bG:zc sj/\(1<=sj.cfg.space/\sj.cfg.space<=sj.cfg.retry/\sj.cfg.retry<=1000)/\xz sj.clock/\(0<=t.asks.tries/\t.asks.tries<=1000000/\xz t.asks.last):=by
     obtain⟨cv,cw,df,cx,dg,dh,di⟩:=aq.o;obtain⟨t0,a0,cm,cn,ax⟩:=ak.o.asks o t be;obtain⟨bD,cR,cS,cT⟩:=cx o t0 a0;rw[ϐ bD] at cn;have:=bo.o;refine⟨ak.o.subs cv,by rw[ak.o.cfg];exact(kF cw).2.2.1,by rw[ak.o.clock];exact⟨τ,τ⟩,cm bD,τ, ?_⟩;rcases ax with ax | ax<;>rw[ax]<;>exact⟨τ,τ⟩
    have aj:=κ bG;have cf:Hid (∀o v,qh sj.tab.s o=ϊ v->0<=v/\v<=4294967295):=κ (by rw[ak.o.tab];exact aq.o.2.2.2.2.2.1);have cd:Hid (sj.reqs.length<=1000000):=κ (by have:=ak.o.reqs;have:=aq.o.2.2.2.2.1;have:=bo.o;omega);clear bG bM be;obtain⟨I,o2⟩:=o;simp only at bB c1;obtain⟨ag,aJ⟩:=ν (wr.alloc (.cells #[ι I,ι o2] 58));have bw:Hid (ql wr ag):=κ (by rw[<-aJ];exact ql.alloc _ _);have az:Hid (ag.heap[wr.heap.size]? =ϊ (.cells #[ι I,ι o2] 58 (0,0))):=κ (by rw[<-aJ];exact qj wr _);have bz:=κ (aK.stay bw.o);obtain⟨ck,cB,cD,bO⟩:=aK;have aW:RmX ck w0 ag k cB cD sj ([wr.heap.size]++(Fn++F)):=bO.adds bw.o (λb Y=>by simp at Y;subst Y;exact⟨ϕ _,lt_of_block az.o⟩);have aE:=κ aW;obtain⟨p,cH,v,bJ,bP⟩:=aW.strAt aD.o;have bv:=κ bP;have bq:=κ bJ;have bX:=λ(x:qt ag)=>β13 (qq x.h aE.o.blk)
    have aT:=λ(x:qt ag)=>qq x.h az.o
    have bj:=λx=>β0 (aT x);have bk:=λx=>β1 (aT x);clear aT
    have bY: ∀x:qt ag,(Instr.lookup 91 (.map (ϊ k.MS)) (θ #[ι I,ι o2]) ύ).run prog x.w'= .ok (γ p) x.w':=λx=>by
     have:=ya (aE.o.stm.more x.h) (I,o2) ύ;rw[bq.o] at this;exact this
    clear bO aW bP bJ
    go_upto_region 7 with fail
    (try rw[aJ])
    clear aJ bB c1;refine Qn ag 7 7 [] ?_
    refine Qq7 ?_
    refine qA ?_;clear bX bY bj bk
    go_upto_region 8 with fail
    obtain⟨G,aZ⟩:=ν (ag.drewN 1);have av:Hid (ql ag G):=κ (by rw[<-aZ];exact ql.drewN _ 1);have aF:=κ (aE.o.on av.o);have cj:=κ (aE.o.at.stay av.o)
    (try rw[aZ])
    clear aZ;obtain⟨bU,bf⟩:=ν (sj.wants (I,o2));have aS:=κ (λw' (m:ql G w')=>FA (aF.o.on m) aj.o.1 I o2 aD.o);rw[bf] at aS;obtain⟨cy,bc⟩:=ν (vU sj.cfg.space sj.cfg.retry t.asks bU sj.clock);have ar:=κ (λw'=>Cy sj.cfg.space sj.cfg.retry t.asks bU sj.clock aj.o.2.1.1 aj.o.2.1.2.1 aj.o.2.1.2.2 aj.o.2.2.2.1 aj.o.2.2.2.2.1 aj.o.2.2.2.2.2 aj.o.2.2.1 w');rw[bc] at ar;obtain⟨⟨U,M,N,O⟩,bh⟩:=cy;simp only at ar;have bn:Hid (sj.tick1 (I,o2)=if bh then ({sj with strs:=qx sj.strs (I,o2) {t with asks:=⟨U,M,N,O⟩}}:RmS).request (I,o2) else {sj with strs:=qx sj.strs (I,o2) {t with asks:=⟨U,M,N,O⟩}}):=κ (by unfold RmS.tick1;rw[aD.o];simp only[bf,bc]);clear bf bc
    go_cut [6,7] from 32 to 51 (λcz cA ab=> ∃A,cz= γ A/\cA= μ bh/\ab.heap[A]? =ϊ (.cells #[μ U,M,ι N,ι O] 174 (0,0))/\ql G ab)
    case first=>
     have aG:=λ(x:qt G)=>qq x.h aF.o.blk
     have cE:=λx=>β4 (aG x);have cF:=λx=>β5 (aG x);have cG:=λx=>β9 (aG x);clear aG
     have au:=λ(x:qt G)=>qq (av.o.trans x.h) bv.o.blk
     have cI:=λx=>β3 (au x);have cJ:=λx=>β4 (au x);have cK:=λx=>β5 (au x);have S6:=λx=>β6 (au x);clear au
     have aU:=λ(x:qt G)=>qq (av.o.trans x.h) az.o
     have bj:=λx=>β0 (aU x);have bk:=λx=>β1 (aU x);clear aU
     refine zB G 23 (.op 0 ύ (.op 1 ύ (.op 2 ύ (.op 3 ύ (.op 4 ύ (.op 5 ύ (.op 6 ύ (.op 7 ύ (.op 8 ύ (.op 9 ύ (.op 10 ύ (.op 12 ύ (.op 13 ύ (.op 14 ύ (.op 15 ύ (.br [11,20] λk=>if k=11 then .br [16,20] λk=>if k=16 then .op 17 ύ (.op 18 ύ (.op 19 ύ (.op 20 ό (.op 21 ό (.op 22 ύ (.done)))))) else .op 16 ό (.op 17 ύ (.op 18 ύ (.op 19 ύ (.op 21 ό (.op 22 ύ (.done)))))) else .op 11 ό (.op 16 ό (.op 17 ύ (.op 18 ύ (.op 19 ύ (.op 21 ό (.op 22 ύ (.done))))))))))))))))))))))) ξ ξ ?_
     repeat (first | (refine jg rfl rfl (qk ρ) ?_) | (refine qH rfl rfl (qk ρ) ?_;intro K d;go_big_quiet_op;go_big_quiet_on))
     refine wP ζ ?_ ?_
     ·(refine qO rfl rfl ?_;intro K d;unfold jn;go_simp)
      refine(aS.o _ (ql.drewN G 1)).mono ?_;rintro e w5 ⟨rfl,bS⟩;have aw:Hid (ql G w5):=κ ((ql.drewN G 1).trans bS);clear bS;refine⟨_,rfl,qk aw.o,d _ _ ?_⟩;clear d K;refine wP ζ ?_ ?_
      ·(refine qO rfl rfl ?_;intro K d;unfold jn;go_simp)
       refine(ar.o _).mono ?_;rintro e ab ⟨rfl,ao⟩;have af:=κ (aw.o.trans ao);clear ao;refine⟨_,rfl,qk af.o,d _ _ ?_⟩;clear d K
       repeat (first | (refine jg rfl rfl (qk af.o) ?_) | (refine qH rfl rfl (qk af.o) ?_;intro K d;go_big_quiet_op;go_big_quiet_on))
       (refine qO rfl rfl ?_;intro K d;unfold jn;go_simp)
       refine⟨qk (af.o.al _),d _ _ ?_⟩;clear d K;obtain⟨A,aa⟩:=ν (ab.heap.size);obtain⟨w9,aM⟩:=ν (ab.alloc (.cells #[μ ύ,ύ,ι 0,ι 0] 174));have ai:Hid (w9.heap[A]? =ϊ (.cells #[μ ύ,ύ,ι 0,ι 0] 174 (0,0))):=κ (by rw[<-aM,<-aa];exact qj ab _);have ac:Hid (ql G w9):=κ (by rw[<-aM];exact af.o.al _);have ap:Hid (G.heap.size<=A):=κ (by rw[<-aa];exact af.o.size)
       (try rw[aM])
       (try rw[aa])
       clear aM aa;refine qO rfl rfl ?_;intro K d;have H:=κ (ac.o.row ap.o #[μ U,M,ι N,ι O]);have ad:=κ (jM ai.o #[μ U,M,ι N,ι O]);refine xw 174 (.tmp 6) (.tmp 50) rfl A 174 _ #[μ U,M,ι N,ι O] ai.o rfl rfl ξ rfl W5 ?_;refine⟨qk H.o,d _ _ ?_⟩;clear d K;go_simp
       repeat (first | (refine jg rfl rfl (qk H.o) ?_) | (refine qH rfl rfl (qk H.o) ?_;intro K d;go_big_quiet_op;go_big_quiet_on))
       refine zg ?_;go_wp2;go_meet;exact⟨A,rfl,rfl,ad.o,H.o⟩
      ·(refine qO rfl rfl ?_;intro K d;unfold jn;go_simp)
       refine⟨qk (aw.o.al _),d _ _ ?_⟩;clear d K;obtain⟨A,aa⟩:=ν (w5.heap.size);obtain⟨w8,ah⟩:=ν (w5.alloc (.cells #[μ ύ,ύ,ι 0,ι 0] 174));have aO:Hid (w8.heap[A]? =ϊ (.cells #[μ ύ,ύ,ι 0,ι 0] 174 (0,0))):=κ (by rw[<-ah,<-aa];exact qj w5 _);have aH:Hid (ql G w8):=κ (by rw[<-ah];exact aw.o.al _);have ap:Hid (G.heap.size<=A):=κ (by rw[<-aa];exact aw.o.size)
       (try rw[ah])
       (try rw[aa])
       clear ah aa
       (refine qO rfl rfl ?_;intro K d;unfold jn;go_simp)
       refine(ar.o _).mono ?_;rintro e w9 ⟨rfl,am⟩;have ac:=κ (aH.o.trans am);have ai:=κ (qq am aO.o);clear am;refine⟨_,rfl,qk ac.o,d _ _ ?_⟩;clear d K
       repeat (first | (refine jg rfl rfl (qk ac.o) ?_) | (refine qH rfl rfl (qk ac.o) ?_;intro K d;go_big_quiet_op;go_big_quiet_on))
       refine qO rfl rfl ?_;intro K d;have H:=κ (ac.o.row ap.o #[μ U,M,ι N,ι O]);have ad:=κ (jM ai.o #[μ U,M,ι N,ι O]);refine xw 174 (.tmp 6) (.tmp 50) rfl A 174 _ #[μ U,M,ι N,ι O] ai.o rfl rfl ξ rfl W5 ?_;refine⟨qk H.o,d _ _ ?_⟩;clear d K;go_simp
       repeat (first | (refine jg rfl rfl (qk H.o) ?_) | (refine qH rfl rfl (qk H.o) ?_;intro K d;go_big_quiet_op;go_big_quiet_on))
       refine zg ?_;go_wp2;go_meet;exact⟨A,rfl,rfl,ad.o,H.o⟩
     ·(refine qO rfl rfl ?_;intro K d;unfold jn;go_simp)
      refine⟨qk ((ql.drewN G 1).al _),d _ _ ?_⟩;clear d K;obtain⟨ab,aN⟩: ∃ab:World,G.drewN 1=ab:=⟨_,rfl⟩;have af:Hid (ql G ab):=κ (by rw[<-aN];exact ql.drewN G 1)
      (try rw[aN])
      (try rw[show G.heap.size=ab.heap.size from by rw[<-aN];rfl])
      clear aN;obtain⟨A,aa⟩:=ν (ab.heap.size);obtain⟨w8,ah⟩:=ν (ab.alloc (.cells #[μ ύ,ύ,ι 0,ι 0] 174));have aO:Hid (w8.heap[A]? =ϊ (.cells #[μ ύ,ύ,ι 0,ι 0] 174 (0,0))):=κ (by rw[<-ah,<-aa];exact qj ab _);have aH:Hid (ql G w8):=κ (by rw[<-ah];exact af.o.al _);have ap:Hid (G.heap.size<=A):=κ (by rw[<-aa];exact af.o.size)
      (try rw[ah])
      (try rw[aa])
      clear ah aa
      (refine qO rfl rfl ?_;intro K d;unfold jn;go_simp)
      refine(aS.o _ aH.o).mono ?_;rintro e w6 ⟨rfl,ao⟩;have bx:=κ (aH.o.trans ao);have bW:=κ (qq ao aO.o);clear ao;refine⟨_,rfl,qk bx.o,d _ _ ?_⟩;clear d K
      (refine qO rfl rfl ?_;intro K d;unfold jn;go_simp)
      refine(ar.o _).mono ?_;rintro e w9 ⟨rfl,am⟩;have ac:=κ (bx.o.trans am);have ai:=κ (qq am bW.o);clear am;refine⟨_,rfl,qk ac.o,d _ _ ?_⟩;clear d K
      repeat (first | (refine jg rfl rfl (qk ac.o) ?_) | (refine qH rfl rfl (qk ac.o) ?_;intro K d;go_big_quiet_op;go_big_quiet_on))
      refine qO rfl rfl ?_;intro K d;have H:=κ (ac.o.row ap.o #[μ U,M,ι N,ι O]);have ad:=κ (jM ai.o #[μ U,M,ι N,ι O]);refine xw 174 (.tmp 6) (.tmp 50) rfl A 174 _ #[μ U,M,ι N,ι O] ai.o rfl rfl ξ rfl W5 ?_;refine⟨qk H.o,d _ _ ?_⟩;clear d K;go_simp
      repeat (first | (refine jg rfl rfl (qk H.o) ?_) | (refine qH rfl rfl (qk H.o) ?_;intro K d;go_big_quiet_op;go_big_quiet_on))
      refine zg ?_;go_wp2;go_meet;exact⟨A,rfl,rfl,ad.o,H.o⟩
    case rest=>
    obtain⟨A,rfl,rfl,bA,bQ⟩:=hcut;have ad:=κ bA;have H:=κ bQ;clear bA bQ;have cl:=κ (aF.o.on H.o);have ae:=κ (bv.o.on (av.o.trans H.o));have a0:=β0 ad.o;have cM:=β1 ad.o;have cN:=β2 ad.o;have a3:=β3 ad.o;have db:=β3 ae.o.blk;have dc:=β4 ae.o.blk;have dd:=β5 ae.o.blk;have de:=β6 ae.o.blk;have cU:=yw ae.o.blk 3;have cV:=yw ae.o.blk 4;have cW:=yw ae.o.blk 5;have cX:=yw ae.o.blk 6;have aB:=κ (cl.o.strSet (t':={t with asks:=⟨U,M,N,O⟩}) aD.o bq.o ae.o ((((jt.set (S:=λb=>b=p) (jt.refl _ _) (p:=⟨p,3,ϋ⟩) rfl (μ U)).set (p:=⟨p,4,ϋ⟩) rfl (μ M)).set (p:=⟨p,5,ϋ⟩) rfl (ι N)).set (p:=⟨p,6,ϋ⟩) rfl (ι O)) (qB (qp (qp (qp (qp ae.o.blk 3 _) 4 _) 5 _) 6 _) rfl) rfl);have aI:=κ (cj.o.trans ((aF.o.at.stay H.o).trans aB.o.2));obtain⟨cL,aY⟩:=ν (((((wc.setCell ⟨p,3,ϋ⟩ (μ U)).setCell ⟨p,4,ϋ⟩ (μ M)).setCell ⟨p,5,ϋ⟩ (ι N)).setCell ⟨p,6,ϋ⟩ (ι O)));rw[aY] at aB aI;have bi:=κ (aI.o.blk η az.o);have ax:=β0 bi.o;have cQ:=β1 bi.o;cases bh with
    | false=>
     have aQ:Hid (sj.tick1 (I,o2)={sj with strs:=qx sj.strs (I,o2) {t with asks:=⟨U,M,N,O⟩}}):=κ (by rw[bn.o];rfl);go_wp2
     (try rw[aY])
     go_roundw
     case rel=>exact⟨j+1,τ,by go_num,by rw[bt.o,Φ,bs.o];show qI w0 _ k (sj.tick1 (I,o2)) _;rw[aQ.o];exact aB.o.1.sub (λb Y=>ϓ _ Y),aR.o.trans (bz.o.trans (aI.o.sub (λb Y=>ϓ _ Y)))⟩
     case measure=>simp[intOf];omega
    | true=>
     have aQ:Hid (sj.tick1 (I,o2)=({sj with strs:=qx sj.strs (I,o2) {t with asks:=⟨U,M,N,O⟩}}:RmS).request (I,o2)):=κ (by rw[bn.o];rfl);have cc:=κ (CF aB.o.1 I o2 cf.o cd.o)
     go_wp2_with ((try rw[aY]);(go_at_call 86;(go_call cc.o as e dj ⟨rfl,bE,bT⟩;have bZ:=κ bE;have ch:=κ bT;clear bE bT)))
     go_roundw
     case rel=>exact⟨j+1,τ,by go_num,by rw[bt.o,Φ,bs.o];show qI w0 _ k (sj.tick1 (I,o2)) _;rw[aQ.o];exact bZ.o.sub (λb Y=>ϓ _ Y),aR.o.trans (bz.o.trans ((aI.o.trans ch.o).sub (λb Y=>ϓ _ Y)))⟩
     case measure=>simp[intOf];omega
   ·obtain rfl:j=J.length:=by omega
    have ct: ¬(J.length:Int)<(J.length:Int):=by omega
    go_wp2;go_ret;exact⟨by rw[aC.o];rfl,by rw[aC.o];have:=aK;rw[ϱ] at this;exact this.sub (λb Y=>ϓ _ Y),ci.o.trans (aR.o.sub (λb Y=>ϓ _ Y))⟩
section
open _root_.Go.Proofs.Tryz renaming func170->Ξa,ntmps170->Ξb
def Lv (x:Int) (s:SlI .i64 w v l):Calls prog 170 #[v,ι x] w (Ge x l w):=Ψ8
end
def MJ (x:Int) (s:SlI .i64 w v l):Calls prog 117 #[v,ι x] w λe w'=>e= .returned (μ (decide (x∈l)))/\w=w':=by
 go_enter func117,ntmps117
 go_wp2_with (go_at_call 170;(go_call Lv x s as e w2 ⟨n,d,H,rfl,rfl⟩;have G:=κ d;clear d))
 go_ret;exact⟨qZ (by rw[E0];simp only[C4];exact G.o),rfl⟩
def wkL (L M:List Int):List Og:=(0,0)::(1,0)::(M.filter λx=>decide (x∈L)).flatMap λx=>[(2,x),(3,x),(4,x)]
def Wy (L G:List Int):(wkL L G).length<=2+3* G.length:=by
 unfold wkL;have h: ∀d:List Int,(d.flatMap λx=>[((2,x):Og),(3,x),(4,x)]).length=3* d.length:=by
  intro d
  induction d with
  | nil=>rfl
  | cons x d ih=>rw[List.flatMap_cons,Ϗ,ih,ϙ,ϙ,ϙ,ϙ,Ϫ];omega
 have:=C8 (λx=>decide (x∈L)) G;rw[ϙ,ϙ,h];omega
def Vk (L d:List Int) (x:Int):wkL L (d++[x])=wkL L d++if x∈L then [(2,x),(3,x),(4,x)] else []:=by
 unfold wkL;rw[I2,N6];by_cases h:x∈L
 ·rw[ϐ h];simp[h]
 ·rw[ώ h];simp[h]
def Vo {j:Nat} (h:j<6):subIds.take (j+1)=subIds.take j++[(j:Int)]:=by
 have:j=0∨j=1∨j=2∨j=3∨j=4∨j=5:=by omega
 rcases this with rfl | rfl | rfl | rfl | rfl | rfl<;>rfl
def Un (x:Int) (h:n<3):([(2,x),(3,x),(4,x)]:List Og).take (n+1)=([(2,x),(3,x),(4,x)]:List Og).take n++[(((2+n:Nat):Int),x)]:=by
 have:n=0∨n=1∨n=2:=by omega
 rcases this with rfl | rfl | rfl<;>rfl
def Aw (w:World):je 2 RO (λ_=>False) (w.alloc (.cells #[ι 0,ι 0,ι 1,ι 0] 37)) w.heap.size 37 (δ (ϊ ⟨w.heap.size,0,ϋ⟩) 2 2) [(0,0),(1,0)]:=
 ⟨⟨[ι 0,ι 0,ι 1,ι 0],⟨rfl,ϔ ⟨w.heap.size,2,_,rfl,ϕ _,qj w _,ϕ _,by unfold maxLen;omega,rfl,rfl⟩⟩,λi hi=>λw' _=>by
  have:i=0∨i=1:=by simp at hi;omega
  rcases this with rfl | rfl<;>rfl⟩,λb _ h=>h⟩
def KF {L:List Int} (s:SlI .i64 w v L):
  Calls prog 71 #[v] w λe w'=> ∃v',e= .returned v'/\je 2 RO (λ_=>False) w' w.heap.size 37 v' (yp L)/\ql w w':=by
 obtain⟨aA,hi,av,aw,ax⟩:=info_parts (P:=prog) (e:=37) (z:= θ #[ι 0,ι 0]) (size:=2) (bytes:=16) ξ;have aj:=κ s;obtain⟨aH,cap,rfl,_⟩:=id s;have e0:yp L=wkL L (subIds.take 6):=rfl;rw[e0];have an:=κ (ql.alloc w (.cells #[ι 0,ι 0,ι 1,ι 0] 37));have ap:=κ (Aw w);clear s e0
 go_enter func71,ntmps71
 go_wp2
 go_loopw [3,9] (λu ac wr=> ∃i:Nat,i<=6/\ac= ι i/\(∃J I H,u= δ J I H)/\je 2 RO (λ_=>False) wr w.heap.size 37 u (wkL L (subIds.take i))/\ql w wr) (λ_ ac _=>6-(intOf ac).toNat)
 case atStart=>exact⟨0,τ,rfl,⟨_,_,_,rfl⟩,ap.o,an.o⟩
 case round=>
  obtain⟨i,aE,rfl,⟨J,I,H,rfl⟩,O,N⟩:=hrel;have G:=κ O;have d:=κ N;clear O N;by_cases hlt:i<6
  ·have ar:(i:Int)<6:=by omega
   have ad:=κ (Vo hlt);have ae:=κ (Wy L (subIds.take i));have am:Hid ((subIds.take i).length=i):=κ (by rw[Ϡ];show min i 6=i;omega);have Y:=κ (MJ (i:Int) (aj.o.keep d.o));obtain⟨c,M⟩:=ν (decide ((i:Int)∈L));rw[M] at Y;cases c with
   | false=>
    have U:Hid (wkL L (subIds.take (i+1))=wkL L (subIds.take i)):=κ (by rw[ad.o,Vk,ώ (C1 M),Ω]);clear M
    go_wp2_with (go_at_call 117;(go_call Y.o as e w2 ⟨rfl,aa⟩;obtain rfl:=aa))
    go_roundw
    case rel=>exact⟨i+1,τ,by go_num,⟨_,_,_,rfl⟩,by rw[U.o];exact G.o,d.o⟩
    case measure=>simp[intOf];omega
   | true=>
    have U:Hid (wkL L (subIds.take (i+1))=wkL L (subIds.take i)++[(2,(i:Int)),(3,(i:Int)),(4,(i:Int))]):=κ (by rw[ad.o,Vk,ϐ (ϟ M)]);clear M;obtain⟨B,af⟩:=ν (wkL L (subIds.take i));rw[af] at U ae G;clear af
    go_wp2_with (go_at_call 117;(go_call Y.o as e w2 ⟨rfl,aa⟩;obtain rfl:=aa))
    go_loopw [3,5] (λu st wr=> ∃n:Nat,n<=3/\st= ι ((2+n:Nat):Int)/\(∃J I H,u= δ J I H)/\je 2 RO (λ_=>False) wr w.heap.size 37 u (B++([(2,(i:Int)),(3,(i:Int)),(4,(i:Int))]:List Og).take n)/\ql w wr) (λ_ st _=>5-(intOf st).toNat)
    case atStart=>exact⟨0,τ,rfl,⟨_,_,_,rfl⟩,by rw[T6,Ω];exact G.o,d.o⟩
    case round=>
     clear G d;obtain⟨n,aF,rfl,⟨J,I,H,rfl⟩,O,N⟩:=hrel;have G:=κ O;have d:=κ N;clear O N;by_cases hltn:n<3
     ·have au:((2+n:Nat):Int)<=4:=by omega
      have ak:=κ (Un (i:Int) hltn);have ah:Hid (∀b,(δ J I H).ownBlock=ϊ b->w.heap.size<=b):=κ (λb h=>G.o.ge h);have aC:(B++([(2,(i:Int)),(3,(i:Int)),(4,(i:Int))]:List Og).take n).length<=23:=by
       have:=ae.o;have:=am.o;rw[Ϗ,Ϡ];show B.length+min n 3<=23;omega
      have ai:=κ (G.o.on (ql.alloc wr (.cells #[ι ((2+n:Nat):Int),ι (i:Int)] 37)))
      go_wp2_with (at_builtin;(refine jN (R:=RO) (D:=λ_=>False) _ rfl (.tmp 20) (.tmp 24) 98 rfl w.heap.size 37 aA (θ #[ι 0,ι 0]) 2 16 underlying98 hi av aw ax rfl ζ _ (B++([(2,(i:Int)),(3,(i:Int)),(4,(i:Int))]:List Og).take n) rfl ai.o wr.heap.size [ι ((2+n:Nat):Int),ι (i:Int)] (((2+n:Nat):Int),(i:Int)) rfl rfl (zS η) W5 (λw' _=>rfl) (λb h=>h.elim) ζ τ (d.o.al _).size ?_;intro v' w8 ab ag aq;have aB:Hid (ql w w8):=κ (Below.grown (d.o.al _) ag (d.o.al _).size ah.o);obtain⟨aI,aG,aD,rfl,ay,az⟩:=ab.shape;have ao:=κ ab;clear ab ag aq ay az))
      go_roundw
      case rel=>exact⟨n+1,τ,by go_num,⟨_,_,_,rfl⟩,by rw[ak.o,<-ϧ];exact ao.o,aB.o⟩
      case measure=>simp[intOf];omega
     ·obtain rfl:n=3:=by omega
      have au: ¬((2+3:Nat):Int)<=4:=by omega
      go_wp2;go_roundw
      case rel=>exact⟨i+1,τ,by go_num,⟨_,_,_,rfl⟩,by rw[U.o];exact G.o,d.o⟩
      case measure=>simp[intOf];omega
  ·obtain rfl:i=6:=by omega
   have ar: ¬((6:Nat):Int)<6:=by omega
   go_wp2;go_ret;exact⟨_,rfl,G.o,d.o⟩
def Gw:prog.eqGuardType prog.depth 37=ύ:=by kernel_rfl
def Ea (d G H I:Int) (w:World):(binOp .eql 37 (θ #[ι d,ι G]) (θ #[ι H,ι I])).run prog w= .ok (μ (decide (((d,G):Og)=(H,I)))) w:=by
 have h:(Op.equalIn 10000 37 (θ #[ι d,ι G]) (θ #[ι H,ι I])).run prog w= .ok (decide (((d,G):Og)=(H,I))) w:=ZX (d,G) (H,I) w;rw[run_eql_struct,h];rfl
def JQ (w:World) (oa:Option Addr) (L:List Og):Prop:=L.length<=maxLen/\ ∀w',ql w w'-> ∀i (hi:i<L.length),∃b,oa=ϊ ⟨b,0,ϋ⟩/\w'.cell? ⟨b,i* 2,ϋ⟩=ϊ (.int .i64 L[i].1)/\w'.cell? ⟨b,i* 2+1,ϋ⟩=ϊ (.int .i64 L[i].2)
def LP {base:Nat} (h:je 2 RO (λ_=>False) w base 37 v L): ∃oa cap,v= δ oa L.length cap/\JQ w oa L:=by
 obtain⟨⟨xs,d,r⟩,_⟩:=h;rcases id d.2 with ⟨rfl,H⟩ | ⟨b,cap,cur,rfl,J,I,M,N,_⟩
 ·exact⟨ϋ,0,by rw[H],by rw[H];exact Ψ _,λw' _ i hi=>by omega⟩
 ·refine⟨_,cap,rfl,τ,λw' m i hi=>⟨b,rfl, ?_, ?_⟩⟩
  ·have e:(xs.drop (i* 2)).take 2=[ι L[i].1,ι L[i].2]:=(r i hi).read;have e0:=ϯ (λl:List Value=>l[0]?) e;simp at e0;rw[m.cells _ _ (lt_of_block I),d.cellAt _ τ];exact e0
  ·have e:(xs.drop (i* 2)).take 2=[ι L[i].1,ι L[i].2]:=(r i hi).read;have G:=ϯ (λl:List Value=>l[1]?) e;simp at G;rw[m.cells _ _ (lt_of_block I),d.cellAt _ τ];exact G
def Lt {ak:Option Addr} (d G:Int) (h:JQ w ak L):
  Calls prog 118 #[δ ak L.length cap,θ #[ι d,ι G]] w λe w'=> ∃n:Int,(0<=n↔(d,G)∈L)/\ -1<=n/\e= .returned (ι n)/\ql w w':=by
 obtain⟨ay,ai⟩:=h;have M:=κ ai;unfold maxLen at ay;obtain⟨W1,J⟩:=ν (w.alloc (.cells #[ι d,ι G] 37));have I:Hid (ql w W1):=κ (by rw[<-J];exact ql.alloc _ _);have am:Hid (W1.heap[w.heap.size]? =ϊ (.cells #[ι d,ι G] 37 (0,0))):=κ (by rw[<-J];exact qj w _);have az:=Gw;clear ai
 go_enter func118,ntmps118
 go_wp2
 (try rw[J])
 clear J
 go_loopw [8] (λU wr=> ∃k:Nat,k<=L.length/\U= ι k/\(d,G)∉L.take k/\ql W1 wr) (λU _=>L.length-(intOf U).toNat)
 case atStart=>exact⟨0,τ,rfl,η,ql.refl _⟩
 case round=>
  obtain⟨j,aA,rfl,ah,ag⟩:=hrel;have ac:=κ ah;have H:=κ ag;clear ah ag;by_cases hlt:j<L.length
  ·have ax:(j:Int)<(L.length:Int):=by omega
   obtain⟨b,rfl,_,_⟩:=M.o _ (I.o.trans H.o) j hlt;have aj:L.take (j+1)=L.take j++[L[j]]:=ϵ hlt;have aq:=κ aj;have ap:=κ (ϛ hlt);have ae: ∀x:qt wr,x.w'.cell? ⟨b,j* 2,ϋ⟩=ϊ (ι (L[j]).1):=λx=>by
    obtain⟨au,e,av,_⟩:=M.o x.w' (I.o.trans (H.o.trans x.h)) j hlt;injection e with e
    injection e with e
    subst e;exact av
   have af: ∀x:qt wr,x.w'.cell? ⟨b,j* 2+1,ϋ⟩=ϊ (ι (L[j]).2):=λx=>by
    obtain⟨au,e,_,aw⟩:=M.o x.w' (I.o.trans (H.o.trans x.h)) j hlt;injection e with e
    injection e with e
    subst e;exact aw
   clear aj;generalize L[j]=y at *;obtain⟨Y,aa⟩:=y;simp only at ae af;have N:=λ(x:qt wr)=>qq (H.o.trans x.h) am.o
   have an:=λx=>β0 (N x);have ao:=λx=>β1 (N x);clear N
   obtain⟨c,O⟩:=ν (decide (((d,G):Og)=(Y,aa)));have al:=λw=>Ea d G Y aa w
   rw[O] at al;have ab:=κ O;clear O
   go_upto_region 4 with fail
   refine Qn wr 6 6 [] ?_
   refine Qq6 ?_
   refine qA ?_;clear an ao ae af al;have ad:=κ (ql.drewN wr 1);cases c with
   | true=>
    have e:((d,G):Og)=(Y,aa):=ϟ ab.o;have ar:Hid ((d,G)∈L):=κ (by rw[e];exact ap.o);clear e;go_wp2;go_ret;exact⟨j,⟨λ_=>ar.o,λ_=>by omega⟩,τ,rfl,I.o.trans (H.o.trans ad.o)⟩
   | false=>
    go_wp2;go_roundw
    case rel=>exact⟨j+1,τ,by go_num,by rw[aq.o,ϡ,Δ];exact λh=>h.elim ac.o (C1 ab.o),H.o.trans ad.o⟩
    case measure=>simp[intOf];omega
  ·obtain rfl:j=L.length:=by omega
   have ax: ¬(L.length:Int)<(L.length:Int):=by omega
   go_wp2;go_ret;refine⟨-1,⟨λh=>by omega,λh=> ?_⟩,τ,rfl,I.o.trans H.o⟩;have:=ac.o;rw[ϱ] at this;exact ϩ h this
def MH {H:Option Addr} (d G:Int) (h:JQ w H L):
  Calls prog 72 #[δ H L.length cap,θ #[ι d,ι G]] w λe w'=>e= .returned (μ (decide ((d,G)∈L)))/\ql w w':=by
 have I:=κ (qj w (.cells #[ι d,ι G] 37));have Y:=β0 I.o;have aa:=β1 I.o;have N:=κ (Lt (w:=w.alloc (.cells #[ι d,ι G] 37)) (cap:=cap) d G (⟨h.1,λw' m=>h.2 w' (W4.trans m)⟩:JQ _ H L));clear h
 go_enter func72,ntmps72
 go_wp2_with (go_at_call 118;(go_call N.o as e w2 ⟨n,J,ab,rfl,M⟩;have O:=κ J;have U:=κ M;clear J M))
 go_ret;exact⟨qZ (by rw[E0];simp only[C4];exact O.o),W4.trans U.o⟩
def Hp (h:RmX T w0 w k vp vr s F):Calls prog 66 #[γ k.RQ] w λe w'=>e= .returned (ι s.queue.length)/\ql w w':=by
 obtain⟨f,Q,H,I,d,G,css,g,a⟩:=h.que;refine(Ng g).mono ?_;rintro e w' ⟨rfl,rfl⟩;exact⟨by rw[a.len],ql.refl _⟩
def NI (s:RmS) (i:Nat):List Int:=(subIds.take i).filter λx=>(qh s.lanes x).isSome
def Uk (s:RmS) (i:Nat):(NI s i).length<=6:=Ϙ (C8 _ _) (by rw[Ϡ];show min i 6<=6;omega)
def je.low {R:qL α} {D:Nat->Prop} {base d e:Nat} {L:List α} (h:je n R D w base e v L) (M:d<=base):je n R D w d e v L:=by
 obtain⟨⟨xs,⟨G,H⟩,I⟩,J⟩:=h;refine⟨⟨xs,⟨G, ?_⟩,I⟩,J⟩;rcases H with h | ⟨g,cap,cur,e1,hg,rest⟩
 ·exact ϒ h
 ·exact ϔ ⟨g,cap,cur,e1,Ϙ M hg,rest⟩
def O7 (h:RmX T w0 w k vp vr s F):Calls prog 26 #[γ k.R] w λe w'=> ∃v,e= .returned v/\je 2 RO (λ_=>False) w' w.heap.size 37 v s.workers/\ql w w':=by
 obtain⟨az,hi,aw,ax,ay⟩:=info_parts (P:=prog) (e:=3) (z:= ι 0) (size:=1) (bytes:=8) ξ;have J:=κ h;have aa:=κ (Uk s);clear h
 go_enter func26,ntmps26
 go_wp2
 go_loopw [3,7] (λu N wr=> ∃i:Nat,i<=6/\N= ι i/\(∃aj ai ab,u= δ aj ai ab)/\wr.ownsRow w.heap.size 3 1 u (NI s i).length ((NI s i).map (Value.int .i64))/\ql w wr) (λ_ N _=>6-(intOf N).toNat)
 case atStart=>exact⟨0,τ,rfl,⟨_,_,_,rfl⟩,World.ownsRow_nil _ _ _ _,ql.refl _⟩
 case round=>
  obtain⟨i,aC,rfl,⟨aj,ai,ab,rfl⟩,ag,af⟩:=hrel;have H:=κ ag;have d:=κ af;clear ag af;by_cases hlt:i<6
  ·have au:(i:Int)<6:=by omega
   have Y:=κ (Vo hlt);have aA:=β12 (qq d.o J.o.blk);have q:(Instr.lookup 90 (.map (ϊ k.ML)) (ι (i:Int)) ό).run prog wr= .ok (.tuple #[Gh (qh k.LA (i:Int)),μ (qh k.LA (i:Int)).isSome]) wr:=xq (J.o.lnm.more d.o) (i:Int) ό;have G:=(J.o.all (.lane (i:Int))).2;have av:=aa.o i;cases hg:qh k.LA (i:Int) with
   | none=>
    rw[hg] at G q;have I:Hid (NI s (i+1)=NI s i):=κ (by unfold NI;rw[Y.o,I2,K4,ώ (by rw[<-G];decide)];simp);clear G hg;go_wp2;go_roundw
    case rel=>exact⟨i+1,τ,by go_num,⟨_,_,_,rfl⟩,by rw[I.o];exact H.o,d.o⟩
    case measure=>simp[intOf];omega
   | some p=>
    rw[hg] at G q;have I:Hid (NI s (i+1)=NI s i++[(i:Int)]):=κ (by unfold NI;rw[Y.o,I2,K4,ϐ (by rw[<-G];rfl)];simp);obtain⟨M,ae⟩:=ν (NI s i);rw[ae] at I H av;clear G hg ae
    go_wp2_with (at_builtin;(refine qU _ rfl (.tmp 20) (.tmp 22) 107 rfl w.heap.size 3 az (ι 0) 8 underlying107 hi aw ax ay rfl _ .i64 M rfl (H.o.alloc _) _ [(i:Int)] rfl (SlI.lit .i64 wr [(i:Int)] 3 _ 1 _ η rfl η η) (by simp;omega) ζ (by have:=d.o.size;simp;omega) ?_;intro aF w6 O ad _;have an:=κ O;have am:Hid (ql w w6):=κ (Below.grown (d.o.al _) ad (d.o.al _).size (λb ar=>jS H.o ar));obtain⟨aD,aB,ac⟩:=xl O;rw[show (M++[(i:Int)]).length=M.length+1 from by simp] at ac;subst ac;clear O ad))
    go_roundw
    case rel=>exact⟨i+1,τ,by go_num,⟨_,_,_,rfl⟩,by rw[I.o];exact an.o,am.o⟩
    case measure=>simp[intOf];omega
  ·obtain rfl:i=6:=by omega
   have au: ¬((6:Nat):Int)<6:=by omega
   have U:=κ (KF (SlI.of_owns H.o (by have:=aa.o 6;omega)));have ao:Hid (yp (NI s 6)=s.workers):=κ rfl;rw[ao.o] at U
   go_wp2_with (go_at_call 71;(go_call U.o as e w2 ⟨aE,rfl,ak,ah⟩;have ap:=κ (ak.low d.o.size);have aq:=κ ah;clear ak ah))
   go_ret;exact⟨_,rfl,ap.o,d.o.trans aq.o⟩
def Xr (h:RmX T w0 w k vp vr s F):Calls prog 26 #[γ k.R] w λe w'=> ∃d cap,e= .returned (δ d s.workers.length cap)/\JQ w' d s.workers/\ql w w':=by
 refine(O7 h).mono ?_;rintro e w' ⟨v,rfl,G,H⟩;obtain⟨d,cap,rfl,I⟩:=LP G;exact⟨d,cap,rfl,I,H⟩
def LI (h:RmX T w0 w k vp vr s F) (aA:xz s.clock) (w1 w2:Int):
  Calls prog 27 #[γ k.R,θ #[ι w1,ι w2]] w λe w'=>e= .returned (μ (s.may (w1,w2)))/\ql w w':=by
 obtain⟨W1,O⟩:=ν (w.alloc (.cells #[ι w1,ι w2] 37));have M1:Hid (ql w W1):=κ (by rw[<-O];exact ql.alloc _ _);have ap:Hid (W1.heap[w.heap.size]? =ϊ (.cells #[ι w1,ι w2] 37 (0,0))):=κ (by rw[<-O];exact qj w _);have av:=κ (h.on M1.o);have aN:=κ aA;obtain⟨c,U⟩:=ν (decide ((w1,w2)∈s.workers));obtain⟨ax,ak⟩:=ν (s.closed);have ad:Hid (s.may (w1,w2)=(c&&(if ax then !((qh s.ret (w1,w2)).getD ύ) else s.mayOpen (w1,w2)))):=κ (by unfold RmS.may;rw[U,ak]);have aL:=κ ak;have aP:=κ (λ(h:c=ό)=>ϟ (U.trans h));have au:=κ (Xr (av.o.on (ql.drewN W1 1)));have ag:=λ(x:qt W1)=>qq x.h ap.o
 have ab:=λx=>β0 (ag x);have ac:=λx=>β1 (ag x);clear ag
 have aq:Hid (∀w' Y cap,JQ w' Y s.workers->Calls prog 72 #[δ Y s.workers.length cap,θ #[ι w1,ι w2]] w' λe w''=>e= .returned (μ c)/\ql w' w''):=κ (λw' Y cap aT=>by rw[<-U];exact MH w1 w2 aT);clear h aA U ak
 go_enter func27,ntmps27
 go_upto_region 1 with fail
 (try rw[O])
 clear O;refine zC W1 5 [(0,ύ),(2,ύ),(1,ό),(3,ό),(4,ύ)] ξ ξ ?_
 refine Qq2 ?_
 (refine Ql ?_;intro K d)
 (with_reducible refine au.o.mono ?_)
 rintro e aY ⟨Y,cap,rfl,aH,aI⟩;have aR:=κ aH;have aw:Hid (ql W1 aY):=κ ((ql.drewN W1 1).trans aI);clear aH aI;refine⟨_,rfl,qk aw.o,d _ _ ?_⟩;clear d K
 (refine Ql ?_;intro K d)
 go_call aq.o _ _ _ aR.o as e w4 ⟨rfl,aJ⟩;have G:Hid (ql W1 w4):=κ (aw.o.trans aJ);clear aJ;refine⟨_,rfl,qk G.o,d _ _ ?_⟩;clear d K
 iterate 1 (refine qE rfl rfl (qk G.o) ?_;intro K d;go_big_quiet_op;go_big_quiet_on)
 refine qA ?_;clear ab ac au aq;have H:=κ (av.o.on G.o);have aa:=κ (qq G.o ap.o);have aS:=β7 H.o.blk;rw[aL.o] at aS;cases c with
 | false=>
  go_wp2;go_ret;exact⟨by rw[ad.o];rfl,M1.o.trans G.o⟩
 | true=>
  have aQ:=κ (mem_workers.1 (aP.o rfl));cases ax with
  | true=>
   have N:Hid (s.may (w1,w2)= !((qh s.ret (w1,w2)).getD ύ)):=κ (by rw[ad.o];rfl);obtain⟨aW,ao⟩:=ν ((qh s.ret (w1,w2)).getD ύ);rw[ao] at N;have ba:=λ(x:qt w4)=>β8 (qq x.h H.o.blk)
   have ah:=λ(x:qt w4)=>qq x.h aa.o
   have ab:=λx=>β0 (ah x);have ac:=λx=>β1 (ah x);clear ah
   have bc: ∀x:qt w4,(Instr.lookup 87 (.map (ϊ k.M1)) (θ #[ι w1,ι w2]) ύ).run prog x.w'= .ok (μ aW) x.w':=λx=>by rw[<-ao];exact VH (H.o.retm.more x.h) (w1,w2)
   clear ao
   go_upto_region 4 with fail
   refine Qn w4 8 8 [] ?_
   refine Qq8 ?_
   refine qA ?_;go_wp2;go_ret;exact⟨by rw[N.o];rfl,(M1.o.trans G.o).dr 1⟩
  | false=>
   have N:Hid (s.may (w1,w2)=s.mayOpen (w1,w2)):=κ (by rw[ad.o];rfl);have bd:=β0 aa.o;by_cases e0:w1=0
   ·subst e0;have I:Hid (s.may (0,w2)=decide (0<s.queue.length)):=κ (by rw[N.o];unfold RmS.mayOpen;rw[ϐ rfl]);have be:=β10 H.o.blk;have aM:=κ (Hp H.o)
    go_wp2_with (go_at_call 66;(go_call aM.o as e w5 ⟨rfl,J⟩;have M:=κ J;clear J))
    go_ret;exact⟨qZ (by rw[I.o,E0]),M1.o.trans (G.o.trans M.o)⟩
   ·by_cases e1:w1=1
    ·subst e1;have I:Hid (s.may (1,w2)=s.ready.isSome):=κ (by rw[N.o];unfold RmS.mayOpen;rw[ώ η,ϐ rfl]);have af:=κ (Al H.o aN.o);obtain⟨aV,aC⟩:=ν (s.readyO);obtain⟨bk,an⟩:=ν (s.ready.isSome);rw[aC,an] at af;rw[an] at I;clear aC an;obtain⟨bi,bj⟩:=aV;simp only at af
     go_wp2_with (go_at_call 73;(go_call af.o as e w5 ⟨rfl,J⟩;have M:=κ J;clear J))
     go_ret;exact⟨by rw[I.o];rfl,(M1.o.trans (G.o.trans M.o)).al _⟩
    ·have aU:(w1=2∨w1=3∨w1=4)/\(qh s.lanes w2).isSome=ό:=by
      rcases aQ.o with e | e | e
      ·injection e with e3 e4
       exact ϩ e3 e0
      ·injection e with e3 e4
       exact ϩ e3 e1
      ·exact⟨e.1,e.2.2⟩
     obtain⟨aF,aG⟩:=aU;obtain⟨l,am⟩:=Ϥ.1 aG;obtain⟨p,aB,ay⟩:=H.o.laneAt am;have I:Hid (s.may (w1,w2)=vC l (xB w1)):=κ (by rw[N.o];unfold RmS.mayOpen;simp only[ώ e0,ώ e1,am]);have aE:xB w1=1∨xB w1=2∨xB w1=3:=by rcases aF with rfl | rfl | rfl<;>decide
     obtain⟨aX,aD⟩:=ν (xB w1);have ar:=κ (λw'=>Z4 w1 w2 w');have ae:=κ (λw' (m:ql w4 w')=>Iv (ay.on m) (xB w1) aE);rw[aD] at ar ae I;obtain⟨bh,az⟩:=ν (vC l aX);rw[az] at ae I;have aO:=κ aB;have bf:(w1==0)=ύ:=by simpa using e0
     have bg:(w1==1)=ύ:=by simpa using e1
     clear aD az aE ay am aG aF e0 e1 aB
     go_upto_region 11 with fail
     have aZ:=λ(x:qt w4)=>β12 (qq x.h H.o.blk)
     have ai:=λ(x:qt w4)=>qq x.h aa.o
     have ab:=λx=>β0 (ai x);have ac:=λx=>β1 (ai x);clear ai
     have bb: ∀x:qt w4,(Instr.lookup 90 (.map (ϊ k.ML)) (ι w2) ύ).run prog x.w'= .ok (γ p) x.w':=λx=>by
      have:=xq (H.o.lnm.more x.h) w2 ύ;rw[aO.o] at this;exact this
     refine Qn w4 11 11 [8,9] ?_
     refine Qq8 ?_
     (refine Ql ?_;intro K d)
     go_call ar.o _ as e w5 ⟨rfl,J⟩;have M:Hid (ql w4 w5):=κ ((ql.drewN w4 1).trans J);clear J;refine⟨_,rfl,qk M.o,d _ _ ?_⟩;clear d K
     (refine Ql ?_;intro K d)
     go_call ae.o _ M.o as e w6 ⟨rfl,aK⟩;have aj:Hid (ql w4 w6):=κ (M.o.trans aK);clear aK;refine⟨_,rfl,qk aj.o,d _ _ ?_⟩;clear d K
     iterate 1 (refine qE rfl rfl (qk aj.o) ?_;intro K d;go_big_quiet_op;go_big_quiet_on)
     refine qA ?_;go_wp2;go_ret;exact⟨by rw[I.o];rfl,M1.o.trans (G.o.trans aj.o)⟩
def Ev {b:Jb} (d:JOK b) (G:Int):JOK (yD b G).1:=by
 unfold yD;cases hb:b.holds with
 | nil=>exact d
 | cons h T=>
  simp only;split
  ·exact VL d hb
  ·exact d
def Ew {b:Jb} {d:Int} (h:xa b d=ό): ∃x∈b.holds,(yD b d).2.2.1=x.2.2:=by
 unfold yD;cases hb:b.holds with
 | nil=>unfold xa at h;rw[hb] at h;cases h
 | cons x L=>
  simp only[h,A0];exact⟨x,Ϟ,rfl⟩
def Fh (s:RmS) (o:Og) (i:Nat) {a:AcS} (h:s.pks.getD i ac0=a):s.item o (i:Int)=⟨i,o.2,zJ a.pk.pl,a.pk⟩:=by
 unfold RmS.item;rw[ο,h]
def GZ (d:ItS) (h: ∀y i,qh s.book (y,i)=ϊ 0->(qh s.lanes y).isSome=ό) (x:Int): ∀y i,qh (s.put1 d x).book (y,i)=ϊ 0->(qh (s.put1 d x).lanes y).isSome=ό:=by
 intro y i;unfold RmS.put1;split
 ·cases hl:qh s.lanes x with
  | none=>exact h y i
  | some l=>
   have G:(qh s.lanes y).isSome=ό->(qh (qx s.lanes x (xp l d).1) y).isSome=ό:=λe=>by
    rw[qF];split
    ·rfl
    ·exact e
   simp only;split
   ·intro e;refine G (h y i ?_);simp only at e;rw[ye _ _ _ _ ζ] at e;split at e
    ·cases e
    ·exact e
   ·exact λe=>G (h y i e)
 ·exact h y i
def ZD (d:ItS): ∀(L:List Int) {s:RmS},(∀y i,qh s.book (y,i)=ϊ 0->(qh s.lanes y).isSome=ό)-> ∀y i,qh (L.foldl (RmS.put1 d) s).book (y,i)=ϊ 0->(qh (L.foldl (RmS.put1 d) s).lanes y).isSome=ό
 | [],_,h=>h
 | x::L,_,h=>ZD d L (GZ d h x)
def Lg (dD:qI w0 w k s F) (bv:Ia s) (w1 w2:Int) (acc:Bool):
  Calls prog 80 #[γ k.R,θ #[ι w1,ι w2],acc] w λe w'=>e= .returned (.tuple #[])/\qI w0 w' k s.order F/\qw F w w':=by
 obtain⟨T,vp,dK,h⟩:=dD;obtain⟨W1,aG⟩:=ν (w.alloc (.cells #[ι w1,ι w2] 37));have bQ:Hid (ql w W1):=κ (by rw[<-aG];exact ql.alloc _ _);have aD:=κ (h.on bQ.o);have bS:=κ (h.at.stay bQ.o);have aM:=κ bv;have aS:=κ (Al aD.o bv.clock);clear h bv;obtain⟨cx,bb⟩:=ν (s.ready);have aQ:=κ bb;have e0:s.readyO=cx.getD (0,0):=by unfold RmS.readyO;rw[bb]
 rw[bb,e0] at aS;clear bb e0;cases cx with
 | none=>
  have bj:Hid (s.order=s):=κ (by unfold RmS.order;rw[aQ.o])
  go_enter func80,ntmps80
  go_upto_region 1 with fail
  (try rw[aG])
  clear aG
  go_wp2_with (go_at_call 73;(go_call aS.o as e G ⟨rfl,aK⟩;have aE:=κ aK;clear aK))
  (refine bodyPost_ret (v:= .tuple #[]) ?re2 rfl ?_;(case re2=>simp[results,results80,go_sem]))
  exact⟨rfl,by rw[bj.o];exact(aD.o.on (aE.o.al _)).at,bS.o.trans (aD.o.at.stay (aE.o.al _))⟩
 | some o=>
  obtain⟨an,o2⟩:=o;simp only[ϥ,Option.isSome_some] at aS;have bZ:=List.mem_of_find?_eq_some aQ.o;have ba:s.readyAt (an,o2)=ό:=R4 aQ.o;obtain⟨t,av⟩:=yB bZ;have ce:xa t.buf s.clock=ό:=by
   unfold RmS.readyAt at ba;rw[av] at ba;exact ba
  have aT:=κ av;have cU:=κ ce;clear bZ ba av ce;have bj:Hid (s.order=s.orderAt (an,o2) t):=κ (by unfold RmS.order;rw[aQ.o];simp only[aT.o])
  go_enter func80,ntmps80
  go_upto_region 1 with fail
  (try rw[aG])
  clear aG
  go_upto_region 3 with (go_at_call 73;(go_call aS.o as e G ⟨rfl,aK⟩;have aE:=κ aK;clear aK))
  obtain⟨U,aW⟩:=ν (G.alloc (.cells #[ι an,ι o2] 58));have bR:Hid (ql W1 U):=κ (by rw[<-aW];exact aE.o.al _);have bf:Hid (U.heap[G.heap.size]? =ϊ (.cells #[ι an,ι o2] 58 (0,0))):=κ (by rw[<-aW];exact qj _ _);have cg:W1.heap.size<=G.heap.size:=aE.o.size;have ak:RmX T w0 U k vp dK s ([G.heap.size]++F):=aD.o.adds bR.o (λb ab=>by simp at ab;subst ab;exact⟨cg,qn bf.o⟩)
  (try rw[aW])
  clear aW;have aU:=κ ak;obtain⟨bD,aa,vb,cc,aq⟩:=ak.strAt aT.o;have bO:=κ cc;have ar:=κ aq;have cq:k.R≠aa:=λe=>by have:=aq.nb;rw[<-e,(ak.all .room).1] at this;cases this
  have cr: ¬vb.ownBlock=ϊ k.R:=λe=>by have:=(aq.nv _ e).1;rw[(ak.all .room).1] at this;cases this
  have cp: ¬(k.R=aa∨vb.ownBlock=ϊ k.R):=λe=>e.elim cq cr
  have ck:k.MS≠aa:=λe=>by have:=aq.nb;rw[<-e,(ak.all .sts).1] at this;cases this
  have cl: ¬vb.ownBlock=ϊ k.MS:=λe=>by have:=(aq.nv _ e).1;rw[(ak.all .sts).1] at this;cases this
  have cj: ¬(k.MS=aa∨vb.ownBlock=ϊ k.MS):=λe=>e.elim ck cl
  have cn:G.heap.size≠aa:=λe=>by have:=aq.nb;rw[<-e,(ak.law G.heap.size η).1] at this;cases this
  have co: ¬vb.ownBlock=ϊ G.heap.size:=λe=>by have:=(aq.nv _ e).1;rw[(ak.law G.heap.size η).1] at this;cases this
  have cm: ¬(G.heap.size=aa∨vb.ownBlock=ϊ G.heap.size):=λe=>e.elim cn co
  have ct: ¬(bD=aa∨vb.ownBlock=ϊ bD):=λe=>e.elim (λe=>ar.o.ne e) (λe=>(ar.o.nv _ e).2 rfl)
  have bo:=λ(x:qz (λb=>b=aa∨vb.ownBlock=ϊ b) U)=>x.h.blk aU.o.blk cp
  have cH:=λx=>β13 (bo x);have cI:=λx=>β9 (bo x);clear bo
  have bp:=λ(x:qz (λb=>b=aa∨vb.ownBlock=ϊ b) U)=>x.h.blk bf.o cm
  have cK:=λx=>β0 (bp x);have cL:=λx=>β1 (bp x);clear bp
  have cJ:=λ(x:qz (λb=>b=aa∨vb.ownBlock=ϊ b) U)=>β0 (x.h.blk ar.o.blk ct)
  have bg: ∀x:qz (λb=>b=aa∨vb.ownBlock=ϊ b) U,(Instr.lookup 91 (.map (ϊ k.MS)) (θ #[ι an,ι o2]) ύ).run prog x.w'= .ok (γ bD) x.w':=λx=>by
   have:=ya (aU.o.stm.away x.h cj) (an,o2) ύ;rw[bO.o] at this;exact this
  clear ak cc aq cg cq cr ck cl cn co;refine QN (λb=>b=aa∨vb.ownBlock=ϊ b) U 21 21 [13] ?_
  refine NE ?_
  (refine Ql ?_;intro K d)
  obtain⟨id,aY⟩:=ν ((yD t.buf s.clock).2.2.1);have cO:=κ aY
  have bM:Hid (0<=id/\id<(s.pks.length:Int)):=κ (by
   obtain⟨x,dI,e⟩:=Ew cU.o;rw[<-aY,e]
   exact aM.o.ids _ _ aT.o x dI)
  obtain⟨H,dE⟩:=Γ bM.o.1;subst dE;have dF:H<s.pks.length:=by have:=bM.o.2;omega
  have aP:=κ (FJ t.buf ar.o.ok aa vb s.clock aM.o.clock _ (ar.o.buf.on (ql.drewN U 1)));rw[aY] at aP;clear aY
  (with_reducible refine aP.o.mono ?_)
  rintro e w5 ⟨rfl,v5,st⟩;have bH:Hid (jt (λb=>b=aa∨vb.ownBlock=ϊ b) U w5):=κ (((jt.refl _ U).drewN 1).trans st.away);have az:=κ ((aU.o.on (ql.drewN U 1)).strBuf aT.o bO.o (ar.o.on (ql.drewN U 1)) st (Ev ar.o.ok s.clock));have bq:=κ ((aU.o.at.stay (ql.drewN U 1)).trans az.o.2);clear st;refine⟨_,rfl,qi bH.o,d _ _ ?_⟩;clear d K
  iterate 7 (refine qE rfl rfl (qi bH.o) ?_;intro K d;go_big_quiet_op;go_big_quiet_on)
  refine qA ?_;clear cH cI cK cL cJ bg cp cj cm ct;obtain⟨ac,bc⟩: ∃ac:RmS,{s with strs:=qx s.strs (an,o2) {t with buf:=(yD t.buf s.clock).1}}=ac:=⟨_,rfl⟩;have bP:=κ bc;rw[bc] at az;have aN:Hid (ac.pks=s.pks):=κ (by rw[<-bc]);have bu:H<ac.pks.length:=by rw[aN.o];exact dF
  obtain⟨dL,dS,dU,bF⟩:=az.o.1;obtain⟨g,cap,os,M,N,J,ke,I,rfl,dR,dO,bW,cf⟩:=bF.pkRow bu;have dz:=κ bF;have aR:=κ cf;have bL:=κ bW;have dQ:(ac.pks.length:Int)=s.pks.length:=by rw[aN.o]
  clear bc bF cf bW;obtain⟨a,aH⟩:=ν (ac.pks[H]);have bK:=κ aH;simp only[aH] at aR bL;clear aH;have dB:=β14 dz.o.blk
  have cT:Hid (w5.rangeAt g (H* 13+3) (Γh a.pk os J M ke N I)):=κ (λj v dH=>by
   rw[M0]
   exact bL.o (3+j) v (by rw[Nat.add_comm];exact dH))
  go_upto_region 5 with (refine wpList_load_mid rfl 63 (.tmp 48) rfl g (H* 13+3) rfl (Γh a.pk os J M ke N I) _ cT.o underlying63 rfl ξ ?_)
  obtain⟨W6,aX⟩:=ν (w5.alloc (.cells (Γh a.pk os J M ke N I) 63));have aj:Hid (ql w5 W6):=κ (by rw[<-aX];exact ql.alloc _ _);have cC:Hid (W6.heap[w5.heap.size]? =ϊ (.cells (Γh a.pk os J M ke N I) 63 (0,0))):=κ (by rw[<-aX];exact qj _ _);have cF:=κ (bq.o.blk η bf.o)
  (try rw[aX])
  clear aX dB;have dw:=κ aR.o.pk;have aO:=κ (aM.o.pkok a (by rw[<-bK.o];rw[<-aN.o];exact ϛ bu));obtain⟨ae,bw⟩:=ν (zJ a.pk.pl);have bi:=κ (λw' (m:ql w5 w')=>Jg _ a.pk.pl w' (dw.o.l.keep m) aO.o.1.pl aO.o.2.l);rw[bw] at bi;have cP:=κ bw;clear bw;obtain⟨O,bY⟩: ∃O:ItS,(⟨H,o2,ae,a.pk⟩:ItS)=O:=⟨_,rfl⟩;have aL:=κ bY;clear bY
  have cN:Hid (s.orderAt (an,o2) t=subIds.foldl (RmS.put1 O) ac):=κ (by
   have aH:s.pks.getD H ac0=a:=by
    rw[<-aN.o,ϑ,ϖ bu];exact bK.o
   unfold RmS.orderAt
   rw[cO.o,bP.o,Fh s (an,o2) H aH,<-aL.o,<-cP.o])
  have cS:Hid (∀y i,qh ac.book (y,i)=ϊ 0->(qh ac.lanes y).isSome=ό):=κ (by rw[<-bP.o];exact aM.o.owes);have dy:Hid (qw F w U):=κ (bS.o.trans (aD.o.at.stay bR.o));have dj:=λ(x:qt W6)=>β1 (qq (aj.o.trans x.h) cF.o)
  have ag:=λ(x:qt W6)=>qq x.h cC.o
  have dk:=λx=>β0 (ag x);have dl:=λx=>β1 (ag x);have dm:=λx=>β2 (ag x);have dn:=λx=>β3 (ag x);have dp:=λx=>β4 (ag x);have dq:=λx=>β5 (ag x);have ds:=λx=>β6 (ag x);have dt:=λx=>β7 (ag x);have du:=λx=>β8 (ag x);have dv:=λx=>β9 (ag x);clear ag
  go_cut [12] from 50 to 90 (λv bE=> ∃A:Nat,v= γ A/\RmP (acC a (δ os a.pk.ss.length J) (δ M a.pk.ex.length ke) (δ N a.pk.pl.length I)) a w0 bE k ac ([A]++([G.heap.size]++F))/\qw ([G.heap.size]++F) U bE/\bE.heap[A]? =ϊ (.cells #[ι H,ι o2,ae,a.pk.mr,υ a.pk.ty,φ a.pk.sq,ω a.pk.st,ω a.pk.sc,δ os a.pk.ss.length J,a.pk.has,φ a.pk.pr,δ M a.pk.ex.length ke,δ N a.pk.pl.length I] 253 (0,0)))
  case first=>
   refine zB W6 9 (.op 0 ύ (.op 1 ύ (.op 2 ύ (.op 3 ύ (.op 4 ύ (.op 6 ύ (.br [5,8] λk=>if k=5 then .op 7 ύ (.op 8 ό (.op 9 ό (.done))) else .op 5 ό (.op 7 ύ (.op 9 ό (.done)))))))))) ξ ξ ?_
   repeat (first | (refine jg rfl rfl (qk ρ) ?_) | (refine qH rfl rfl (qk ρ) ?_;intro K d;go_big_quiet_op;go_big_quiet_on))
   refine wP ζ ?_ ?_
   ·(refine qO rfl rfl ?_;intro K d;unfold jn;go_simp)
    refine(bi.o _ (aj.o.trans (ql.drewN W6 1))).mono ?_;rintro e w8 ⟨rfl,ci⟩;have ah:Hid (ql W6 w8):=κ ((ql.drewN W6 1).trans ci);clear ci;refine⟨_,rfl,qk ah.o,d _ _ ?_⟩;clear d K
    repeat (first | (refine jg rfl rfl (qk ah.o) ?_) | (refine qH rfl rfl (qk ah.o) ?_;intro K d;go_big_quiet_op;go_big_quiet_on))
    (refine qO rfl rfl ?_;intro K d;unfold jn;go_simp)
    refine⟨qk (ah.o.al _),d _ _ ?_⟩;clear d K;obtain⟨w9,be⟩:=ν (w8.alloc (.cells Γa 253));obtain⟨A,am⟩:=ν (w8.heap.size);have ay:Hid (w9.heap[A]? =ϊ (.cells Γa 253 (0,0))):=κ (by rw[<-be,<-am];exact qj w8 _);have ap:Hid (ql W6 w9):=κ (by rw[<-be];exact ah.o.al _);have ax:Hid (W6.heap.size<=A):=κ (by rw[<-am];exact ah.o.size)
    (try rw[be])
    (try rw[am])
    clear be am
    repeat (first | (refine jg rfl rfl (qk ap.o) ?_) | (refine qH rfl rfl (qk ap.o) ?_;intro K d;go_big_quiet_op;go_big_quiet_on))
    refine qO rfl rfl ?_;intro K d;have ad:=κ (ap.o.row ax.o #[ι H,ι o2,ae,a.pk.mr,υ a.pk.ty,φ a.pk.sq,ω a.pk.st,ω a.pk.sc,δ os a.pk.ss.length J,a.pk.has,φ a.pk.pr,δ M a.pk.ex.length ke,δ N a.pk.pl.length I]);have ai:=κ (jM ay.o #[ι H,ι o2,ae,a.pk.mr,υ a.pk.ty,φ a.pk.sq,ω a.pk.st,ω a.pk.sc,δ os a.pk.ss.length J,a.pk.has,φ a.pk.pr,δ M a.pk.ex.length ke,δ N a.pk.pl.length I]);refine xw 253 (.tmp 12) (.tmp 57) rfl A 253 _ #[ι H,ι o2,ae,a.pk.mr,υ a.pk.ty,φ a.pk.sq,ω a.pk.st,ω a.pk.sc,δ os a.pk.ss.length J,a.pk.has,φ a.pk.pr,δ M a.pk.ex.length ke,δ N a.pk.pl.length I] ay.o rfl rfl ξ rfl W5 ?_;refine⟨qk ad.o,d _ _ ?_⟩;clear d K
    repeat (first | (refine jg rfl rfl (qk ad.o) ?_) | (refine qH rfl rfl (qk ad.o) ?_;intro K d;go_big_quiet_op;go_big_quiet_on))
    refine zg ?_;obtain⟨bs,au⟩:=ν (w9.setRow A #[ι H,ι o2,ae,a.pk.mr,υ a.pk.ty,φ a.pk.sq,ω a.pk.st,ω a.pk.sc,δ os a.pk.ss.length J,a.pk.has,φ a.pk.pr,δ M a.pk.ex.length ke,δ N a.pk.pl.length I]);rw[au] at ad ai
    (try rw[au])
    clear au;have aB:Hid (RmP (acC a (δ os a.pk.ss.length J) (δ M a.pk.ex.length ke) (δ N a.pk.pl.length I)) a w0 bs k ac ([A]++([G.heap.size]++F))):=κ (aR.o.adds (aj.o.trans ad.o) (λb ab=>by simp at ab;subst ab;exact⟨Ϙ aj.o.size ax.o,qn ai.o⟩));have aF:=κ (bq.o.trans (az.o.1.stay (aj.o.trans ad.o)));go_wp2;go_meet;exact⟨_,rfl,aB.o,aF.o,ai.o⟩
   ·(refine qO rfl rfl ?_;intro K d;unfold jn;go_simp)
    refine⟨qk ((ql.drewN W6 1).al _),d _ _ ?_⟩;clear d K;obtain⟨w8,bd⟩:=ν ((W6.drewN 1).alloc (.cells Γa 253));obtain⟨A,am⟩:=ν (W6.heap.size);have cD:Hid (w8.heap[A]? =ϊ (.cells Γa 253 (0,0))):=κ (by rw[<-bd,<-am];exact qj (W6.drewN 1) _);have ah:Hid (ql W6 w8):=κ (by rw[<-bd];exact(ql.drewN W6 1).al _);have ax:Hid (W6.heap.size<=A):=κ (by rw[<-am];exact(ql.drewN W6 1).size)
    (try rw[bd])
    (try rw[am])
    clear bd am
    repeat (first | (refine jg rfl rfl (qk ah.o) ?_) | (refine qH rfl rfl (qk ah.o) ?_;intro K d;go_big_quiet_op;go_big_quiet_on))
    (refine qO rfl rfl ?_;intro K d;unfold jn;go_simp)
    refine(bi.o _ (aj.o.trans ah.o)).mono ?_;rintro e w9 ⟨rfl,bC⟩;have ap:=κ (ah.o.trans bC);have ay:=κ (qq bC cD.o);clear bC;refine⟨_,rfl,qk ap.o,d _ _ ?_⟩;clear d K
    repeat (first | (refine jg rfl rfl (qk ap.o) ?_) | (refine qH rfl rfl (qk ap.o) ?_;intro K d;go_big_quiet_op;go_big_quiet_on))
    refine qO rfl rfl ?_;intro K d;have ad:=κ (ap.o.row ax.o #[ι H,ι o2,ae,a.pk.mr,υ a.pk.ty,φ a.pk.sq,ω a.pk.st,ω a.pk.sc,δ os a.pk.ss.length J,a.pk.has,φ a.pk.pr,δ M a.pk.ex.length ke,δ N a.pk.pl.length I]);have ai:=κ (jM ay.o #[ι H,ι o2,ae,a.pk.mr,υ a.pk.ty,φ a.pk.sq,ω a.pk.st,ω a.pk.sc,δ os a.pk.ss.length J,a.pk.has,φ a.pk.pr,δ M a.pk.ex.length ke,δ N a.pk.pl.length I]);refine xw 253 (.tmp 12) (.tmp 57) rfl A 253 _ #[ι H,ι o2,ae,a.pk.mr,υ a.pk.ty,φ a.pk.sq,ω a.pk.st,ω a.pk.sc,δ os a.pk.ss.length J,a.pk.has,φ a.pk.pr,δ M a.pk.ex.length ke,δ N a.pk.pl.length I] ay.o rfl rfl ξ rfl W5 ?_;refine⟨qk ad.o,d _ _ ?_⟩;clear d K
    repeat (first | (refine jg rfl rfl (qk ad.o) ?_) | (refine qH rfl rfl (qk ad.o) ?_;intro K d;go_big_quiet_op;go_big_quiet_on))
    refine zg ?_;obtain⟨bs,au⟩:=ν (w9.setRow A #[ι H,ι o2,ae,a.pk.mr,υ a.pk.ty,φ a.pk.sq,ω a.pk.st,ω a.pk.sc,δ os a.pk.ss.length J,a.pk.has,φ a.pk.pr,δ M a.pk.ex.length ke,δ N a.pk.pl.length I]);rw[au] at ad ai
    (try rw[au])
    clear au;have aB:Hid (RmP (acC a (δ os a.pk.ss.length J) (δ M a.pk.ex.length ke) (δ N a.pk.pl.length I)) a w0 bs k ac ([A]++([G.heap.size]++F))):=κ (aR.o.adds (aj.o.trans ad.o) (λb ab=>by simp at ab;subst ab;exact⟨Ϙ aj.o.size ax.o,qn ai.o⟩));have aF:=κ (bq.o.trans (az.o.1.stay (aj.o.trans ad.o)));go_wp2;go_meet;exact⟨_,rfl,aB.o,aF.o,ai.o⟩
  case rest=>
  obtain⟨A,rfl,ca,cy,bV⟩:=hcut;have aB:=κ ca;have aF:=κ cy;have ai:=κ bV;clear dj dk dl dm dn dp dq ds dt du dv ca cy bV;go_wp2
  go_loopw [58] (λbB wr=> ∃j:Nat,j<=6/\bB= ι j/\RmP (acC a (δ os a.pk.ss.length J) (δ M a.pk.ex.length ke) (δ N a.pk.pl.length I)) a w0 wr k ((subIds.take j).foldl (RmS.put1 O) ac) ([A]++([G.heap.size]++F))/\qw ([A]++([G.heap.size]++F)) wc wr) (λbB _=>6-(intOf bB).toNat)
  case atStart=>exact⟨0,τ,rfl,aB.o,qw.refl _ _⟩
  case round=>
   obtain⟨j,dP,rfl,cd,av⟩:=hrel;have aC:=κ cd;have bn:=κ av;have cE:=κ (av.blk η ai.o);clear av;by_cases hlt:j<6
   ·have dG:(j:Int)<6:=by omega
    have bm:=κ (QW hlt);have cR:=κ (ZD O (subIds.take j) cS.o);generalize ch:(subIds.take j).foldl (RmS.put1 O) ac=sj at *;have bl:=κ ch;clear ch;obtain⟨dM,dT,dV,aw,_⟩:=cd;have dA:=β0 aw.blk;have bk:=κ (Hs aw.bok (j:Int) (H:Int));obtain⟨dJ,aI⟩:=ν (decide (qh sj.book ((j:Int),(H:Int))=ϊ 0));rw[aI] at bk;cases dJ with
    | false=>
     have aA:Hid (sj.put1 O (j:Int)=sj):=κ (by unfold RmS.put1;rw[<-aL.o];exact ώ (C1 aI));clear aI aw
     go_wp2_with (go_at_call 135;(go_call bk.o as e af ⟨rfl,aJ⟩;have ao:=κ aJ;clear aJ))
     go_roundw
     case rel=>exact⟨j+1,τ,by go_num,by rw[bm.o,Φ,bl.o];show RmP _ a w0 _ k (sj.put1 O (j:Int)) _;rw[aA.o];exact aC.o.on ao.o,bn.o.trans (aC.o.at.stay ao.o)⟩
     case measure=>simp[intOf];omega
    | true=>
     have bA:qh sj.book ((j:Int),(H:Int))=ϊ 0:=ϟ aI;obtain⟨l,aZ⟩:=Ϥ.1 (cR.o (j:Int) (H:Int) bA);obtain⟨pl,cb,_⟩:=aw.laneAt aZ;have aA:Hid (sj.put1 O (j:Int)=if (xp l O).2.2.1 then {sj with lanes:=qx sj.lanes (j:Int) (xp l O).1,book:=jp sj.book (j:Int) (xp l O).2.1 6} else {sj with lanes:=qx sj.lanes (j:Int) (xp l O).1}):=κ (by unfold RmS.put1;rw[ϐ (by rw[<-aL.o];exact bA),aZ]);have cQ:=κ aZ;have bN:=κ cb;have aV:=κ aw;clear aI aw bA aZ cb
     go_upto_region 10 with (go_at_call 135;(go_call bk.o as e af ⟨rfl,aJ⟩;have ao:=κ aJ;clear aJ))
     have dN:A≠k.R:=λe=>by have:=(aV.o.law A η).1;rw[e,(aV.o.all .room).1] at this;cases this
     have cG:=λ(x:qz (λb=>b≠k.R/\b≠k.ML/\b∉[A]++([G.heap.size]++F)) af)=>β12 (x.h.blk (qq ao.o aV.o.blk) (λc=>c.1 rfl))
     have bg: ∀x:qz (λb=>b≠k.R/\b≠k.ML/\b∉[A]++([G.heap.size]++F)) af,(Instr.lookup 90 (.map (ϊ k.ML)) (ι (j:Int)) ύ).run prog x.w'= .ok (γ pl) x.w':=λx=>by
      have:=xq ((aV.o.lnm.more ao.o).away x.h (λc=>c.2.1 rfl)) (j:Int) ύ;rw[bN.o] at this;exact this
     have bI: ∀x:qz (λb=>b≠k.R/\b≠k.ML/\b∉[A]++([G.heap.size]++F)) af,x.w'.heap[A]? =ϊ (.cells #[ι H,ι o2,ae,a.pk.mr,υ a.pk.ty,φ a.pk.sq,ω a.pk.st,ω a.pk.sc,δ os a.pk.ss.length J,a.pk.has,φ a.pk.pr,δ M a.pk.ex.length ke,δ N a.pk.pl.length I] 253 (0,0)):=λx=>x.h.blk (qq ao.o cE.o) (λc=>c.2.2 η)
     have Y:=λ(x:qz (λb=>b≠k.R/\b≠k.ML/\b∉[A]++([G.heap.size]++F)) af)=>bI x
     have cW:=λx=>β0 (Y x);have cX:=λx=>β1 (Y x);have db:=λx=>β2 (Y x);have dc:=λx=>β3 (Y x);have dd:=λx=>β4 (Y x);have de:=λx=>β5 (Y x);have df:=λx=>β6 (Y x);have dg:=λx=>β7 (Y x);have dh:=λx=>β8 (Y x);have di:=λx=>β9 (Y x);have cY:=λx=>β10 (Y x);have cZ:=λx=>β11 (Y x);have da:=λx=>β12 (Y x);clear Y
     refine QN (λb=>b≠k.R/\b≠k.ML/\b∉[A]++([G.heap.size]++F)) af 15 15 [7] ?_
     refine Qs7 ?_
     (refine Ql ?_;intro K d)
     obtain⟨l',bx⟩: ∃l',(xp l O).1=l':=⟨_,rfl⟩;obtain⟨cu,bz⟩:=ν ((xp l O).2.1);obtain⟨dr,bt⟩:=ν ((xp l O).2.2.1);obtain⟨dC,bX⟩:=ν ((xp l O).2.2.2)
     have aP:Hid (Calls prog 136 #[γ pl,θ #[ι H,ι o2,ae,a.pk.mr,υ a.pk.ty,φ a.pk.sq,ω a.pk.st,ω a.pk.sc,δ os a.pk.ss.length J,a.pk.has,φ a.pk.pr,δ M a.pk.ex.length ke,δ N a.pk.pl.length I]] (af.drewN 1) λe w'=>e= .returned (.tuple #[ι cu,dr,ι dC])/\
       RmP (acC a (δ os a.pk.ss.length J) (δ M a.pk.ex.length ke) (δ N a.pk.pl.length I)) a w0 w' k {sj with lanes:=qx sj.lanes (j:Int) l'} ([A]++([G.heap.size]++F))/\qw ([A]++([G.heap.size]++F)) (af.drewN 1) w'/\jt (λb=>b≠k.R/\b≠k.ML/\b∉[A]++([G.heap.size]++F)) (af.drewN 1) w'):=κ (by
      rw[<-bx,<-bz,<-bt,<-bX,<-aL.o];have h:=(aC.o.on ao.o).on (ql.drewN af 1)
      exact Mz h ⟨H,o2,ae,a.pk⟩ os M N J ke I h.pk aO.o.1 aO.o.2 cQ.o bN.o)
     rw[bx,bz,bt] at aA;clear bx bz bt bX
     (with_reducible refine aP.o.mono ?_)
     rintro e cB ⟨rfl,cv,cz,bU⟩;have bh:=κ cv;have bT:Hid (qw ([A]++([G.heap.size]++F)) wc cB):=κ (bn.o.trans ((aC.o.at.stay (ao.o.dr 1)).trans cz));have bG:Hid (jt (λb=>b≠k.R/\b≠k.ML/\b∉[A]++([G.heap.size]++F)) af cB):=κ (((jt.refl _ af).drewN 1).trans bU);clear cv cz bU;refine⟨_,rfl,qi bG.o,d _ _ ?_⟩;clear d K
     iterate 7 (refine qE rfl rfl (qi bG.o) ?_;intro K d;go_big_quiet_op;go_big_quiet_on)
     refine qA ?_;clear cG bg bI cW cX db dc dd de df dg dh di cY cZ da;cases dr with
     | false=>
      go_wp2;go_roundw
      case rel=>exact⟨j+1,τ,by go_num,by rw[bm.o,Φ,bl.o];show RmP _ a w0 _ k (sj.put1 O (j:Int)) _;rw[aA.o];exact bh.o,bT.o⟩
      case measure=>simp[intOf];omega
     | true=>
      obtain⟨_,_,bJ⟩:=bh.o.at.blk;have dA:=β0 bJ;clear bJ;have cV:=κ (CD bh.o (j:Int) cu 6)
      go_wp2_with (go_at_call 122;(go_call cV.o as e dW ⟨rfl,cw,cA⟩;have cM:=κ cw;have dx:=κ cA;clear cw cA))
      go_roundw
      case rel=>exact⟨j+1,τ,by go_num,by rw[bm.o,Φ,bl.o];show RmP _ a w0 _ k (sj.put1 O (j:Int)) _;rw[aA.o];exact cM.o,bT.o.trans dx.o⟩
      case measure=>simp[intOf];omega
   ·obtain rfl:j=6:=by omega
    have dG: ¬((6:Nat):Int)<6:=by omega
    go_wp2
    (refine bodyPost_end (v:= .tuple #[]) ?re1 rfl ?_;(case re1=>simp[results,results80,go_sem]))
    exact⟨rfl,by rw[bj.o,cN.o];have h:=aC.o.at;exact h.sub (λb ab=>by simp[ab]),dy.o.trans ((aF.o.sub (λb ab=>by simp[ab])).trans (bn.o.sub (λb ab=>by simp[ab])))⟩
def qV.rd (h:qV n s) (ae:n<=10000):Ia s:=by
 have U:=h.num.malf;have Y:=h.num.told;have aa:=h.num.strange;have ab:=h.num.acc;have ac:=h.num.pks;have ad:=h.num.clock;refine⟨⟨h.tb.keys,h.tb.lane,Ϙ h.num.few τ⟩,λx O a b m J=>by rw[h.tb.str _ _ J];exact h.tb.pub x O a b,τ,τ,τ,τ,τ,⟨τ,τ⟩,λo t H=>⟨λd=> ?_,λsq M=> ?_⟩,h.tb.org,λb G=>⟨(h.num.queue b G).1,by have:=(h.num.queue b G).2;omega⟩,λo t H x N=>h.ow.few o t H _ (B6.2 ⟨x,N,rfl⟩),λa d=>⟨(h.num.pkok a d).1,(h.num.pkok a d).2.1⟩,λx id G=> ?_⟩
 ·have:=h.num.great o t H d;exact⟨τ,τ⟩
 ·have:=WS (n:=n) M (h.num.great o t H);exact⟨τ,τ⟩
 ·obtain⟨l,I,_⟩:=h.ow.src x id G;rw[I];rfl
def Hq (aF:qI w0 w k s F) (ar:qV n s) (au:n<=10000) (w1 w2:Int) (acc:Bool):
  Calls prog 31 #[γ k.R,θ #[ι w1,ι w2],acc] w λe w'=>e= .returned (μ (s.pick (w1,w2) acc).2)/\qI w0 w' k (s.pick (w1,w2) acc).1 F/\qw F w w':=by
 obtain⟨T,vp,aK,h⟩:=aF;obtain⟨W1,J⟩:=ν (w.alloc (.cells #[ι w1,ι w2] 37));have ay:Hid (ql w W1):=κ (by rw[<-J];exact ql.alloc _ _);have al:Hid (W1.heap[w.heap.size]? =ϊ (.cells #[ι w1,ι w2] 37 (0,0))):=κ (by rw[<-J];exact qj w _);have I:=κ (h.on ay.o);have ae:=κ (h.at.stay ay.o);have ao:=κ ar;have ap:=κ (ar.rd au);obtain⟨c,aq⟩:=ν (s.may (w1,w2));obtain⟨az,aA⟩:=ν (s.closed);have ac:=κ (LI I.o ap.o.clock w1 w2);rw[aq] at ac;have am:=κ aq;have ab:=κ aA;have ag:=β0 al.o;have ah:=β1 al.o;have aw:=κ au;clear h aq aA ar au;cases c with
 | false=>
  have an:Hid (s.pick (w1,w2) acc=(s,ύ)):=κ (by unfold RmS.pick;rw[ώ (by rw[am.o];decide)]);rw[an.o]
  go_enter func31,ntmps31
  go_upto_region 1 with fail
  (try rw[J])
  clear J
  go_wp2_with (go_at_call 27;(go_call ac.o as e ai ⟨rfl,d⟩;have G:=κ d;clear d))
  go_ret;exact⟨rfl,(I.o.on G.o).at,ae.o.trans (I.o.at.stay G.o)⟩
 | true=>
  have an:Hid (s.pick (w1,w2) acc=(s.stepW (w1,w2) acc,ό)):=κ (by unfold RmS.pick;rw[ϐ am.o]);rw[an.o]
  have ax:Hid ((w1,w2)∈s.workers/\(if s.closed then !((qh s.ret (w1,w2)).getD ύ) else s.mayOpen (w1,w2))=ό):=κ (by
   have h:=am.o;unfold RmS.may at h;rw[B9] at h
   exact⟨ϟ h.1,h.2⟩)
  have aI:(w1=0∨w1=1∨w1=2∨w1=3∨w1=4)/\(2<=w1->(qh s.lanes w2).isSome=ό):=by
   rcases mem_workers.1 ax.o.1 with e | e | e
   ·injection e with e3 e4
    exact⟨ϒ e3,λh=>by omega⟩
   ·injection e with e3 e4
    exact⟨ϔ (ϒ e3),λh=>by omega⟩
   ·exact⟨ϔ (ϔ e.1),λ_=>e.2.2⟩
  obtain⟨aB,aC⟩:=aI;have aj:=κ aC;clear aC;have ad: ∀w',ql W1 w'->w'.cell? ⟨k.R,7,ϋ⟩=ϊ (μ az):=λw' m=>by rw[<-ab.o];exact qm (qq m I.o.blk) 7 rfl
  have af:=κ ad;have M:=κ (λw' (m:ql W1 w')=>qq m al.o);clear ad;cases az with
  | true=>
   have O:Hid (s.stepW (w1,w2) acc=s.endW (w1,w2)):=κ (by unfold RmS.stepW;rw[ϐ ab.o]);have aH:=ao.o.num.lost;have av:=aw.o;have aD:=κ (λw' (m:ql W1 w')=>ME (I.o.at.on m) w1 w2 acc τ aj.o τ);clear aH av aB
   go_enter func31,ntmps31
   go_upto_region 1 with fail
   (try rw[J])
   clear J
   go_wp2_with (first | (go_at_call 27;(go_call ac.o as e ai ⟨rfl,d⟩;have G:=κ d;have ad:=af.o _ d;have ag:=β0 (M.o _ d);have ah:=β1 (M.o _ d);clear d)) | (go_at_call 78;(go_call aD.o _ G.o as e w4 ⟨rfl,H,t4⟩;have N:=κ H;have U:=κ t4;clear H t4)))
   go_ret;exact⟨rfl,by rw[O.o];exact N.o,ae.o.trans ((I.o.at.stay G.o).trans U.o)⟩
  | false=>
   have aE:Hid (s.mayOpen (w1,w2)=ό):=κ (by
    have:=ax.o.2;rw[ab.o] at this
    exact this)
   rcases aB with rfl | rfl | rfl | rfl | rfl
   ·have O:Hid (s.stepW (0,w2) acc=s.read):=κ (by unfold RmS.stepW;rw[ώ (by rw[ab.o];decide),ϐ rfl]);obtain⟨b,q,ak⟩: ∃b q,s.queue=b::q:=by
     have h:=aE.o;unfold RmS.mayOpen at h;rw[ϐ rfl] at h;have h:=ϟ h;cases ak:s.queue with
     | nil=>rw[ak] at h;simp at h
     | cons b q=>exact⟨b,q,rfl⟩
    have Y:=κ (λw' (m:ql W1 w')=>Mx (I.o.at.on m) ap.o ak 0 w2 acc);clear ak
    go_enter func31,ntmps31
    go_upto_region 1 with fail
    (try rw[J])
    clear J
    go_wp2_with (first | (go_at_call 27;(go_call ac.o as e ai ⟨rfl,d⟩;have G:=κ d;have ad:=af.o _ d;have ag:=β0 (M.o _ d);have ah:=β1 (M.o _ d);clear d)) | (go_at_call 79;(go_call Y.o _ G.o as e w4 ⟨rfl,H,t4⟩;have N:=κ H;have U:=κ t4;clear H t4)))
    go_ret;exact⟨rfl,by rw[O.o];exact N.o,ae.o.trans ((I.o.at.stay G.o).trans U.o)⟩
   ·have O:Hid (s.stepW (1,w2) acc=s.order):=κ (by unfold RmS.stepW;rw[ώ (by rw[ab.o];decide),ώ η,ϐ rfl]);have Y:=κ (λw' (m:ql W1 w')=>Lg (I.o.at.on m) ap.o 1 w2 acc)
    go_enter func31,ntmps31
    go_upto_region 1 with fail
    (try rw[J])
    clear J
    go_wp2_with (first | (go_at_call 27;(go_call ac.o as e ai ⟨rfl,d⟩;have G:=κ d;have ad:=af.o _ d;have ag:=β0 (M.o _ d);have ah:=β1 (M.o _ d);clear d)) | (go_at_call 80;(go_call Y.o _ G.o as e w4 ⟨rfl,H,t4⟩;have N:=κ H;have U:=κ t4;clear H t4)))
    go_ret;exact⟨rfl,by rw[O.o];exact N.o,ae.o.trans ((I.o.at.stay G.o).trans U.o)⟩
   ·have O:Hid (s.stepW (2,w2) acc=s.choose w2):=κ (by unfold RmS.stepW;rw[ώ (by rw[ab.o];decide),ώ η,ώ η,ϐ rfl]);obtain⟨l,aa⟩:=Ϥ.1 (aj.o ζ);have Y:=κ (λw' (m:ql W1 w')=>FG (I.o.at.on m) 2 w2 acc aa);clear aa
    go_enter func31,ntmps31
    go_upto_region 1 with fail
    (try rw[J])
    clear J
    go_wp2_with (first | (go_at_call 27;(go_call ac.o as e ai ⟨rfl,d⟩;have G:=κ d;have ad:=af.o _ d;have ag:=β0 (M.o _ d);have ah:=β1 (M.o _ d);clear d)) | (go_at_call 81;(go_call Y.o _ G.o as e w4 ⟨rfl,H,t4⟩;have N:=κ H;have U:=κ t4;clear H t4)))
    go_ret;exact⟨rfl,by rw[O.o];exact N.o,ae.o.trans ((I.o.at.stay G.o).trans U.o)⟩
   ·have O:Hid (s.stepW (3,w2) acc=s.rewrite w2):=κ (by unfold RmS.stepW;rw[ώ (by rw[ab.o];decide),ώ η,ώ η,ώ η,ϐ rfl]);obtain⟨l,aa⟩:=Ϥ.1 (aj.o ζ);have Y:=κ (λw' (m:ql W1 w')=>CE (I.o.at.on m) 3 w2 acc aa);clear aa
    go_enter func31,ntmps31
    go_upto_region 1 with fail
    (try rw[J])
    clear J
    go_wp2_with (first | (go_at_call 27;(go_call ac.o as e ai ⟨rfl,d⟩;have G:=κ d;have ad:=af.o _ d;have ag:=β0 (M.o _ d);have ah:=β1 (M.o _ d);clear d)) | (go_at_call 82;(go_call Y.o _ G.o as e w4 ⟨rfl,H,t4⟩;have N:=κ H;have U:=κ t4;clear H t4)))
    go_ret;exact⟨rfl,by rw[O.o];exact N.o,ae.o.trans ((I.o.at.stay G.o).trans U.o)⟩
   ·have O:Hid (s.stepW (4,w2) acc=s.write w2 acc):=κ (by unfold RmS.stepW;rw[ώ (by rw[ab.o];decide),ώ η,ώ η,ώ η,ώ η]);obtain⟨l,aa⟩:=Ϥ.1 (aj.o ζ);have aJ:=ao.o.num.wr w2 l aa;have aG:=ao.o.num.book;have av:=aw.o;have Y:=κ (λw' (m:ql W1 w')=>La (I.o.at.on m) 4 w2 acc aa τ τ);clear aa aJ aG av
    go_enter func31,ntmps31
    go_upto_region 1 with fail
    (try rw[J])
    clear J
    go_wp2_with (first | (go_at_call 27;(go_call ac.o as e ai ⟨rfl,d⟩;have G:=κ d;have ad:=af.o _ d;have ag:=β0 (M.o _ d);have ah:=β1 (M.o _ d);clear d)) | (go_at_call 77;(go_call Y.o _ G.o as e w4 ⟨rfl,H,t4⟩;have N:=κ H;have U:=κ t4;clear H t4)))
    go_ret;exact⟨rfl,by rw[O.o];exact N.o,ae.o.trans ((I.o.at.stay G.o).trans U.o)⟩
def ln0:LnS:=Vd 0 0 0 0 0
def RmS.ln (s:RmS) (x:Int):LnS:=(qh s.lanes x).getD ln0
def MC (h:RmX T w0 w k vp vr s F) (x:Int):Calls prog 24 #[γ k.R,ι x] w λe w'=>
  e= .returned (.tuple #[θ #[ι (s.ln x).cur,ι (s.ln x).tgt],θ #[ι (s.ln x).A.length,ι (s.ln x).B.length,ι (s.ln x).C.length],μ (s.ln x).gone,μ (qh s.lanes x).isSome])/\ql w w':=by
 obtain⟨W2,U⟩:=ν ((w.alloc (.cells #[ι 0,ι 0] 103)).alloc (.cells #[ι 0,ι 0,ι 0] 104));have am:Hid (ql w W2):=κ (by rw[<-U];exact W4.al _);have ab:Hid (W2.heap[w.heap.size]? =ϊ (.cells #[ι 0,ι 0] 103 (0,0))):=κ (by rw[<-U];exact qs (qj w _) _);have O:Hid (W2.heap[w.heap.size+1]? =ϊ (.cells #[ι 0,ι 0,ι 0] 104 (0,0))):=κ (by rw[<-U];exact qC η);have ak:=κ (h.on am.o);have bc:=β12 ak.o.blk;have q:_:=xq ak.o.lnm x ό;simp only[A0] at q;cases hl:qh s.lanes x with
 | none=>
  have aj:Hid (s.ln x=ln0):=κ (by unfold RmS.ln;rw[hl];rfl);rw[h.laneNo hl] at q;rw[aj.o]
  replace q:(Instr.lookup 90 (.map (ϊ k.ML)) (ι x) ό).run prog W2= .ok (.tuple #[π ϋ,ύ]) W2:=q
  have z0:=β0 ab.o;have bb:=β1 ab.o;have bg:=yw ab.o 0;have bh:=yw ab.o 1;have aC:=β0 O.o;have aD:=β1 O.o;have aE:=β2 O.o;have t0:=yw O.o 0;have t1:=yw O.o 1;have t2:=yw O.o 2;clear h hl
  go_enter func24,ntmps24
  go_upto_region 1 with fail
  (try rw[U])
  clear U;go_wp2
  (refine bodyPost_ret (v:= .tuple #[θ #[ι 0,ι 0],θ #[ι 0,ι 0,ι 0],ύ,ύ]) ?rr1 rfl ?_;(case rr1=>(simp[results,results24,go_sem,z0,bb,aC,aD,aE])))
  exact⟨rfl,((((am.o.st (ϕ _) _).st (ϕ _) _).st (E8 _ _) _).st (E8 _ _) _).st (E8 _ _) _⟩
 | some l=>
  obtain⟨p,aQ,ae⟩:=ak.o.laneAt hl;have aj:Hid (s.ln x=l):=κ (by unfold RmS.ln;rw[hl];rfl);rw[aj.o];rw[aQ] at q
  replace q:(Instr.lookup 90 (.map (ϊ k.ML)) (ι x) ό).run prog W2= .ok (.tuple #[γ p,ό]) W2:=q
  have aL:=κ (Xb ae);have aJ:=κ (λw' (m:ql W2 w')=>ES (ae.on m));have aI:=κ (λw' (m:ql W2 w')=>JB (ae.on m));obtain⟨d,aw⟩:=ν (l.cur);obtain⟨G,az⟩:=ν (l.tgt);obtain⟨bf,aP⟩:=ν (l.wanted);obtain⟨ba,ay⟩:=ν (l.gone);obtain⟨J,au⟩:=ν (l.A.length);obtain⟨M,av⟩:=ν (l.B.length);obtain⟨N,ax⟩:=ν (l.C.length);rw[aw,az,aP] at aL;rw[ay] at aI;rw[au,av,ax] at aJ;rw[aw,az,ay,au,av,ax];clear aw az aP ay au av ax aQ ae hl h
  go_enter func24,ntmps24
  go_upto_region 1 with fail
  (try rw[U])
  clear U
  go_upto_region 5 with (go_at_call 67;(go_call aL.o as e Y ⟨rfl,aS⟩;have aM:=κ aS;clear aS))
  obtain⟨I,ad⟩:=ν (Y.alloc (.cells #[ι d,ι G] 103));have ao:Hid (ql W2 I):=κ (by rw[<-ad];exact aM.o.al _);have aF:Hid (I.heap[Y.heap.size]? =ϊ (.cells #[ι d,ι G] 103 (0,0))):=κ (by rw[<-ad];exact qj Y _);have aR:w.heap.size+2<=Y.heap.size:=by
   have bd:=aM.o.size;have be:=qn O.o;omega
  have aK:=κ aR;clear aR
  (try rw[ad])
  clear ad;have aW: ∀y:qz (λb=>b=w.heap.size∨b=w.heap.size+1) I,y.w'.cell? ⟨Y.heap.size,0,ϋ⟩=ϊ (ι d):=λy=>qm (y.h.blk aF.o (λe=>by have:=aK.o;omega)) 0 rfl
  have aX: ∀y:qz (λb=>b=w.heap.size∨b=w.heap.size+1) I,y.w'.cell? ⟨Y.heap.size,1,ϋ⟩=ϊ (ι G):=λy=>qm (y.h.blk aF.o (λe=>by have:=aK.o;omega)) 1 rfl
  refine zp (λb=>b=w.heap.size∨b=w.heap.size+1) I 9 [(0,ύ),(1,ύ),(3,ύ),(2,ό),(4,ό),(5,ό),(6,ό),(7,ύ),(8,ύ)] ξ ξ ?_
  refine Qs3 ?_
  (refine Ql ?_;intro K H)
  go_call aJ.o _ (ao.o.dr 1) as e w5 ⟨rfl,aT⟩;have ap:Hid (ql I w5):=κ ((ql.drewN I 1).trans aT);clear aT;refine⟨_,rfl,qi (jt.of_more ap.o),H _ _ ?_⟩;clear H K
  (refine Ql ?_;intro K H)
  go_call aI.o _ (ao.o.trans ap.o) as e w6 ⟨rfl,aU⟩;have aq:Hid (ql I w6):=κ (ap.o.trans aU);clear aU;refine⟨_,rfl,qi (jt.of_more aq.o),H _ _ ?_⟩;clear H K aW aX;have an:=κ (ao.o.trans aq.o);have aG:=κ (qq an.o ab.o);have aV:=κ (qq an.o O.o);refine jR rfl rfl ?_;intro K H;refine xw 103 (.tmp 4) (.tmp 30) rfl w.heap.size 103 _ #[ι d,ι G] aG.o rfl rfl ξ rfl W5 ?_;have af:Hid (jt (λb=>b=w.heap.size∨b=w.heap.size+1) I (w6.setRow w.heap.size #[ι d,ι G])):=κ ((jt.of_more aq.o).trans ((jt.setRow w6 w.heap.size #[ι d,ι G]).mono (λb ar=>ϒ ar)));have aH:=κ (jM aG.o #[ι d,ι G]);have ai:Hid ((w6.setRow w.heap.size #[ι d,ι G]).heap[w.heap.size+1]? =ϊ (.cells #[ι 0,ι 0,ι 0] 104 (0,0))):=κ ((jt.setRow w6 w.heap.size #[ι d,ι G]).blk aV.o τ);have aN:Hid (ql w (w6.setRow w.heap.size #[ι d,ι G])):=κ ((am.o.trans an.o).row (ϕ _) _);refine⟨qi af.o,H _ _ ?_⟩;clear H K;obtain⟨aa,aA⟩:=ν (w6.setRow w.heap.size #[ι d,ι G]);rw[aA] at af aH ai aN
  (try rw[aA])
  clear aA;refine jR rfl rfl ?_;intro K H;refine xw 104 (.tmp 5) (.tmp 32) rfl (w.heap.size+1) 104 _ #[ι J,ι M,ι N] ai.o rfl rfl ξ rfl W5 ?_;have ag:Hid (jt (λb=>b=w.heap.size∨b=w.heap.size+1) I (aa.setRow (w.heap.size+1) #[ι J,ι M,ι N])):=κ (af.o.trans ((jt.setRow aa (w.heap.size+1) #[ι J,ι M,ι N]).mono (λb ar=>ϔ ar)));have ac:=κ (jM ai.o #[ι J,ι M,ι N]);have ah:Hid ((aa.setRow (w.heap.size+1) #[ι J,ι M,ι N]).heap[w.heap.size]? =ϊ (.cells #[ι d,ι G] 103 (0,0))):=κ ((jt.setRow aa (w.heap.size+1) #[ι J,ι M,ι N]).blk aH.o τ);have aO:Hid (ql w (aa.setRow (w.heap.size+1) #[ι J,ι M,ι N])):=κ (aN.o.row (J5 _) _);refine⟨qi ag.o,H _ _ ?_⟩;clear H K;obtain⟨w8,aB⟩:=ν (aa.setRow (w.heap.size+1) #[ι J,ι M,ι N]);rw[aB] at ag ah ac aO
  (try rw[aB])
  clear aB;go_simp
  iterate 2 (refine qE rfl rfl (qi ag.o) ?_;intro K H;go_big_quiet_op;go_big_quiet_on)
  refine qA ?_;have aY:=β0 ah.o;have aZ:=β1 ah.o;have aC:=β0 ac.o;have aD:=β1 ac.o;have aE:=β2 ac.o;go_wp2
  (refine bodyPost_ret (v:= .tuple #[θ #[ι d,ι G],θ #[ι J,ι M,ι N],ba,ό]) ?rr2 rfl ?_;(case rr2=>(simp[results,results24,go_sem,aY,aZ,aC,aD,aE])))
  exact⟨rfl,aO.o⟩
def CA (h:RmX T w0 w k vp vr s F) (x:Int) (d:(s.ln x).W.length<=1000000):Calls prog 14 #[γ k.R,ι x] w λe w'=>(∃v,e= .returned v/\je 2 (ROn w.heap.size) (λb=>b<w.heap.size) w' w.heap.size 56 v (s.ln x).W)/\ql w w':=by
 have Y:=β12 h.blk;have q:_:=xq h.lnm x ό;simp only[A0] at q;cases hl:qh s.lanes x with
 | none=>
  have G:Hid (s.ln x=ln0):=κ (by unfold RmS.ln;rw[hl];rfl)
  replace q:(Instr.lookup 90 (.map (ϊ k.ML)) (ι x) ό).run prog w= .ok (.tuple #[π ϋ,ύ]) w:=by rw[h.laneNo hl] at q;exact q
  rw[G.o];clear h hl d
  go_enter func14,ntmps14
  go_wp2;go_ret;exact⟨⟨_,rfl,je.nil _ _ _ _ _ _⟩,ql.refl _⟩
 | some l=>
  obtain⟨p,I,H⟩:=h.laneAt hl;have G:Hid (s.ln x=l):=κ (by unfold RmS.ln;rw[hl];rfl);rw[G.o] at d ⊢
  replace q:(Instr.lookup 90 (.map (ϊ k.ML)) (ι x) ό).run prog w= .ok (.tuple #[γ p,ό]) w:=by rw[I] at q;exact q
  have N:=κ (Uh H d);clear h hl I H d
  go_enter func14,ntmps14
  go_wp2_with (go_at_call 48;(go_call N.o as e w2 ⟨⟨v,rfl,M⟩,J⟩;have U:=κ M;have O:=κ J;clear M J))
  go_ret;exact⟨⟨_,rfl,U.o⟩,O.o⟩
def Ov (s:RmS) (jo:Int->Int):Prop:= ∀x l,qh s.lanes x=ϊ l->l.rw.src=jo x
def MR (jo:Int->Int) (a:A22) (e:Int):Int->Int:=λx=>if a.act=4/\e=0/\x=a.sub then a.own else jo x
structure Srr (s s':RmS):Prop where
 lanes: ∀x l',qh s'.lanes x=ϊ l'-> ∃l,qh s.lanes x=ϊ l/\l'.rw.src=l.rw.src
def Srr.refl (s:RmS):Srr s s:=⟨λx l h=>⟨l,h,rfl⟩⟩
def Srr.trans {s'':RmS} (h:Srr s s') (k:Srr s' s''):Srr s s'':=⟨λx l e=>by
 obtain⟨H,d,s1⟩:=k.lanes x l e;obtain⟨I,G,s2⟩:=h.lanes x H d
 exact⟨I,G,s1.trans s2⟩⟩
def Srr.same (e:s'.lanes=s.lanes):Srr s s':=⟨λx l h=>⟨l,by rw[<-e];exact h,rfl⟩⟩
def Srr.lane {l l':LnS} (G:qh s.lanes x=ϊ l) (H:l'.rw.src=l.rw.src) (d:s'.lanes=qx s.lanes x l'):Srr s s':=⟨λy m h=>by
 rw[d,qF] at h;split at h
 ·rename_i e;injection h with e4
  subst e4;subst e;exact⟨l,G,H⟩
 ·exact⟨m,h,rfl⟩⟩
def Srr.fold (d: ∀s a,Srr s (f s a)): ∀(L:List α) (s:RmS),Srr s (L.foldl f s)
 | [],s=>Srr.refl s
 | a::L,s=>(d s a).trans (Srr.fold d L (f s a))
def Ov.by (h:Ov s jo) (k:Srr s s'):Ov s' jo:=λx l H=>by
 obtain⟨m,d,G⟩:=k.lanes x l H;rw[G];exact h x m d
def RN (l:LnS) (x:ItS):(xp l x).1.rw.src=l.rw.src:=by
 rcases Rc (s:=l) x with ⟨e,_⟩ | ⟨_,_,_,_,_,e,_⟩<;>rw[e]
def RJ (l:LnS):(jf l).1.rw.src=l.rw.src:=by
 rcases XJ (s:=l) with ⟨_,e⟩ | ⟨_,x,A,d,_,e⟩<;>rw[e]
def Rp (l:LnS):(qY l).1.rw.src=l.rw.src:=by
 rcases MZ (s:=l) with ⟨_,e⟩ | ⟨x,f,B,d,e⟩<;>rw[e]
 rfl
def RY (l:LnS) (acc:Bool):(qX l acc).1.rw.src=l.rw.src:=by
 rcases uV (s:=l) acc with ⟨_,e⟩ | ⟨o,C,d,⟨_,e⟩ | ⟨_,_,_,e⟩⟩<;>rw[e]
def Rf (l:LnS) (n:Int):(jO l n).1.rw.src=l.rw.src:=by
 rcases NR (s:=l) n with e | ⟨_,e⟩<;>rw[e]
def Sw (d:ItS) (L:List Int) (s:RmS):Srr s (L.foldl (RmS.put1 d) s):=Srr.fold (f:=RmS.put1 d) (λs x=>by
 unfold RmS.put1;split
 ·cases hl:qh s.lanes x with
  | none=>exact Srr.refl s
  | some l=>
   simp only;split
   ·exact Srr.lane hl (RN l d) rfl
   ·exact Srr.lane hl (RN l d) rfl
 ·exact Srr.refl s) L s
def Ss (s:RmS) (w:Og) (acc:Bool):Srr s (s.stepW w acc):=by
 have d:Srr s (s.drain w):=by
  unfold RmS.drain;split
  ·exact Srr.same rfl
  ·split
   ·exact Srr.same (NU (f:=RmS.drainO) (λs o=>⟨(Ko s o).1,(Oh s o).pks⟩) s.origins s).1
   ·unfold RmS.drainL;cases hl:qh s.lanes w.2 with
    | none=>exact Srr.refl s
    | some l=>exact Srr.lane hl (l':=vh l (xB w.1)) rfl rfl
 unfold RmS.stepW;split
 ·unfold RmS.endW;split
  ·exact d.trans (Srr.same rfl)
  ·exact d
 ·split
  ·unfold RmS.read;cases s.queue with
   | nil=>exact Srr.refl s
   | cons b q=>
    simp only;split
    ·exact Srr.same (OI {s with queue:=q} b).1
    ·unfold RmS.media;split
     ·cases qh ({s with queue:=q}:RmS).tab.o (jl b).1.sc with
      | none=>exact Srr.same rfl
      | some o=>
       simp only;unfold RmS.accept;cases qh ({s with queue:=q}:RmS).strs o with
       | none=>exact Srr.same rfl
       | some t=>exact Srr.same rfl
     ·exact Srr.same rfl
  ·split
   ·unfold RmS.order;cases s.ready with
    | none=>exact Srr.refl s
    | some o=>
     simp only;cases qh s.strs o with
     | none=>exact Srr.refl s
     | some t=>
      simp only;unfold RmS.orderAt;have G:Srr s {s with strs:=qx s.strs o {t with buf:=(yD t.buf s.clock).1}}:=Srr.same rfl;exact G.trans (Sw _ _ _)
   ·split
    ·unfold RmS.choose;cases hl:qh s.lanes w.2 with
     | none=>exact Srr.refl s
     | some l=>exact Srr.lane hl (RJ l) rfl
    ·split
     ·unfold RmS.rewrite;cases hl:qh s.lanes w.2 with
      | none=>exact Srr.refl s
      | some l=>exact Srr.lane hl (Rp l) rfl
     ·unfold RmS.write;cases hl:qh s.lanes w.2 with
      | none=>exact Srr.refl s
      | some l=>exact Srr.lane hl (RY l acc) rfl
def Ov.act (h:Ov s jo) (a:A22):Ov (doR s a).1 (MR jo a (doR s a).2.1):=by
 have N: ¬a.act=4->Srr s (doR s a).1->Ov (doR s a).1 (MR jo a (doR s a).2.1):=λM k x l d=>by
  unfold MR;rw[ώ (λc=>M c.1)];exact(h.by k) x l d
 by_cases h4:a.act=4
 ·have e:doR s a=((s.join a.sub a.own a.seq a.stamp).1,(s.join a.sub a.own a.seq a.stamp).2,ύ):=by unfold doR;simp[h4]
  rw[e];unfold MR RmS.join;intro x l d;simp only at d ⊢;split at d
  ·rename_i J;rw[ϐ J,ώ (λc=>by have:=c.2.1;simp at this)];exact h x l d
  ·rename_i J;rw[ώ J];split at d
   ·rename_i H;rw[ϐ H];simp only at d ⊢;rw[qF] at d;split at d
    ·rename_i I;injection d with e3
     rw[ϐ ⟨h4,trivial,I⟩,<-e3];rfl
    ·rename_i I;rw[ώ (λc=>I c.2.2)];exact h x l d
   ·rename_i H;rw[ώ H,ώ (λc=>H c.2.1)];exact h x l d
 ·refine N h4 ?_;unfold doR;split
  ·unfold RmS.arrive;split
   ·exact Srr.refl s
   ·split<;>exact Srr.same rfl
  ·split
   ·unfold RmS.pick;split
    ·exact Ss s _ _
    ·exact Srr.refl s
   ·split
    ·unfold RmS.tick;split
     ·exact Srr.refl s
     ·exact Srr.same (ur s.origins {s with clock:=s.clock+1}).lanes
    ·split
     ·unfold RmS.publish;split
      ·exact Srr.refl s
      ·split<;>exact Srr.same rfl
     ·split
      ·unfold RmS.subscribe;split
       ·exact Srr.refl s
       ·split
        ·exact Srr.refl s
        ·split
         ·exact Srr.refl s
         ·split
          ·cases d:qh s.lanes a.sub with
           | none=>exact Srr.refl s
           | some l=>exact Srr.lane d (Rf l _) rfl
          ·exact Srr.refl s
      ·split
       ·unfold RmS.want;split
        ·exact Srr.refl s
        ·split
         ·exact Srr.refl s
         ·split
          ·exact Srr.refl s
          ·cases d:qh s.lanes a.sub with
           | none=>exact Srr.refl s
           | some l=>exact Srr.lane d (Rf l _) rfl
       ·split
        ·unfold RmS.leave;split
         ·exact Srr.refl s
         ·split
          ·refine⟨λy m G=> ?_⟩;simp only at G;rw[uR] at G;split at G
           ·cases G
           ·exact⟨m,G,rfl⟩
          ·exact Srr.refl s
        ·split
         ·unfold RmS.shut;split
          ·exact Srr.refl s
          ·exact Srr.same rfl
         ·exact Srr.refl s
end Go.Proofs.YtlmllmonabafjaaGreatDoor
