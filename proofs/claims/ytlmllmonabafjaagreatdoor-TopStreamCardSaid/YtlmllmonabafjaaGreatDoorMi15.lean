/- x -/
import Derived.Test.YtlmllmonabafjaaGreatDoorMi14
import Derived.ChangeKeysEq
import Derived.Laws.IdiomStrings
namespace Go.Proofs.YtlmllmonabafjaaGreatDoor
open Option renaming some->ϊ,none->ϋ
open Bool renaming true->ό,false->ύ
open Go.Value renaming bool->μ,slice->δ,pointer->π,agg->θ
open Go.IntKind renaming i64->ι,u8->υ,u16->φ,u32->ω,i32->χ,u64->ψ
set_option linter.all false
set_option maxHeartbeats 8000000
open Go.RowKit
set_option maxRecDepth 100000
open _root_.Go.Proofs.Tryz
set_option maxRecDepth 1000000
variable {w w' w0 w1:World} {s s':RmS} {n R W B b i:Nat} {sf:Og->Option Int} {F:List Nat} {jo:Int->Int} {T:Nat->Tg} {k:RmK} {d:List (Int×Int)} {vp vr v:Value} {G:List (Og×Int)} {x a:Int} {l:LnS} {H:Option Addr} {cs:List Value} {S:Nat->Prop} {t:TS}
def OE (h:qh s.lanes x=ϊ l):s.ln x=l:=by unfold RmS.ln;rw[h];rfl
def SG (k:Loc s s') (x:Int) {l':LnS} (h:qh s'.lanes x=ϊ l'): ∃l,qh s.lanes x=ϊ l/\l'.gone=l.gone:=by
 have:=k.lanes x;rw[h] at this;cases hl:qh s.lanes x with
 | none=>rw[hl] at this;cases this
 | some l=>
  rw[hl] at this;simp only[C6,M5] at this;exact⟨l,rfl,ϯ Prod.fst this⟩
def Sg (s:RmS) (w:Og):s.drain w={s with queue:=[],cnt:={s.cnt with lost:=s.cnt.lost+s.queue.length}}∨Loc s (s.drain w):=by
 unfold RmS.drain;split
 ·exact ϒ rfl
 ·split
  ·exact ϔ (za vn _ s)
  ·exact ϔ (OM s w)
structure PkR (s s':RmS):Prop where
 tab: ∀x,(s'.ln x).gone=ύ->qh s'.tab.u x=qh s.tab.u x
 gone: ∀x l l',qh s.lanes x=ϊ l->qh s'.lanes x=ϊ l'->l.gone=ύ->l'.gone=ό->s'.pks=s.pks/\List.Sublist (EI l') (EI l)
def PkR.loc (k:Loc s s'):PkR s s':=⟨λx _=>by rw[k.tab],λx l l' H I J M=>by
 obtain⟨m,d,G⟩:=SG k x I;rw[H] at d;injection d with d
 rw[<-d,J,M] at G
 cases G⟩
def PkR.same (H:s'.tab=s.tab) (I:s'.lanes=s.lanes):PkR s s':=⟨λx _=>by rw[H],λx l l' J d M G=>by
 rw[I,J] at d;injection d with d
 rw[<-d,M] at G
 cases G⟩
def Rj (s:RmS) (w:Og) (acc:Bool):PkR s (s.stepW w acc):=by
 unfold RmS.stepW;split
 ·unfold RmS.endW;have M:PkR s (s.drain w):=by
   rcases Sg s w with e | e
   ·rw[e];exact PkR.same rfl rfl
   ·exact PkR.loc e
  split
  ·exact⟨M.tab,M.gone⟩
  ·exact M
 ·split
  ·unfold RmS.read;cases s.queue with
   | nil=>exact PkR.same rfl rfl
   | cons b q=>
    simp only;split
    ·have O:=OH {s with queue:=q} b
     exact⟨λx _=>by rw[O.tab],λx l l' G d J H=>by
      rw[(OI {s with queue:=q} b).1] at d;simp only at d;rw[G] at d;injection d with d
      rw[<-d,J] at H
      cases H⟩
    ·unfold RmS.media;split
     ·cases qh ({s with queue:=q}:RmS).tab.o (jl b).1.sc with
      | none=>exact PkR.same rfl rfl
      | some o=>
       simp only;unfold RmS.accept;cases qh ({s with queue:=q}:RmS).strs o with
       | none=>exact PkR.same rfl rfl
       | some t=>exact PkR.same rfl rfl
     ·exact PkR.same rfl rfl
  ·split
   ·exact PkR.loc (kr s)
   ·split
    ·exact PkR.loc (vu s _)
    ·split
     ·exact PkR.loc (yA s _)
     ·refine⟨λx I=> ?_,λx l l' G d J H=> ?_⟩
      ·unfold RmS.write at I ⊢;cases hl:qh s.lanes w.2 with
       | none=>rfl
       | some l=>
        rw[hl] at I;simp only at I ⊢;cases hg:(qX l acc).1.gone with
        | false=>simp only[Ϯ,C2]
        | true=>
         simp only[A0];have N:x≠w.2:=λe=>by
          rw[e,OE (xD _ _ _),hg] at I;cases I
         unfold zM;split
         ·split
          ·simp only;rw[qF,ώ N]
          ·rfl
         ·rfl
      ·unfold RmS.write at d ⊢;cases hl:qh s.lanes w.2 with
       | none=>rw[hl] at d;simp only at d;rw[G] at d;injection d with d;rw[<-d,J] at H;cases H
       | some m=>
        rw[hl] at d;simp only at d ⊢;rw[qF] at d;split at d
        ·rename_i e;injection d with d
         rw[e,hl] at G;injection G with G
         rw[<-d,<-G];exact⟨trivial,Ot m acc⟩
        ·rw[G] at d;injection d with d;rw[<-d,J] at H;cases H
def Ob (h:qh s'.tab.u x=qh s.tab.u x):EF s' x=EF s x:=by unfold EF;rw[h]
def Tq (ah:qV n s) (af:(s.tab.u.map Prod.fst).Nodup) (a:A22) (x:Int) (U:((doR s a).1.ln x).gone=ύ):
  EF (doR s a).1 x=if (doR s a).2.1=0/\a.act=5/\x=a.sub then a.pub else if (doR s a).2.1=0/\a.act=7/\x=a.sub then -1 else EF s x:=by
 by_cases h5:a.act=5
 ·have e:doR s a=((s.subscribe a.sub a.pub a.layer).1,(s.subscribe a.sub a.pub a.layer).2,ύ):=by unfold doR;simp[h5]
  rw[e];simp only;rw[ώ (c:=_/\a.act=7/\_) (λc=>by have:=c.2.1;omega)];by_cases d:(s.subscribe a.sub a.pub a.layer).2=0
  ·unfold RmS.subscribe at d ⊢;split at d
   ·simp at d
   ·rename_i O;rw[ώ O];split at d
    ·simp at d
    ·rename_i M;rw[ώ M];split at d
     ·simp at d
     ·rename_i J;rw[ώ J];split at d
      ·rename_i G;rw[ϐ G];have H:(0<=a.sub/\a.sub<6)/\(0<=a.pub/\a.pub<3):=by
        unfold vL at G;split at G
        ·assumption
        ·simp at G
       have N:(qh s.tab.u a.sub).isSome=ό/\(qh s.tab.s (a.pub,0)).isSome=ό:=by
        unfold vL at G;rw[ϐ H] at G;split at G
        ·assumption
        ·simp at G
       obtain⟨ac,ae⟩:=Ϥ.1 N.1;have ag:ac.2.1=ύ:=by
        unfold vL at G;rw[ϐ H,ϐ N,ae] at G;simp only[ϥ] at G;split at G
        ·simp at G
        ·rename_i c;simpa using c
       have I:(vL s.tab a.sub a.pub).1.u=qx s.tab.u a.sub (ac.1,ό,a.pub):=by
        unfold vL;rw[ϐ H,ϐ N,ae];simp only[ϥ];rw[ώ (by rw[ag];decide)]
       have ad:=ah.tb.lane a.sub;rw[N.1] at ad;obtain⟨l,Y⟩:=Ϥ.1 ad.symm;rw[Y] at d ⊢;simp only at d ⊢;by_cases hxs:x=a.sub
       ·rw[ϐ ⟨d,h5,hxs⟩];unfold EF;simp only;rw[I,qF,ϐ hxs];rfl
       ·rw[ώ (λc=>hxs c.2.2)];refine Ob ?_;simp only;rw[I,qF,ώ hxs]
      ·rename_i G;exact ϩ d G
  ·rw[ώ (λc=>d c.1)];unfold RmS.subscribe at d ⊢;split at d
   ·rename_i O;rw[ϐ O]
   ·rename_i O;rw[ώ O];split at d
    ·rename_i M;rw[ϐ M]
    ·rename_i M;rw[ώ M];split at d
     ·rename_i J;rw[ϐ J]
     ·rename_i J;rw[ώ J];split at d
      ·rename_i G;rw[ϐ G];cases Y:qh s.lanes a.sub with
       | none=>rfl
       | some l=>
        exfalso;rw[Y] at d;apply d;simp only;unfold jO;rw[ώ M,ώ (by unfold JV at J;rw[Y] at J;exact J)]
      ·rename_i G;rw[ώ G]
 ·rw[ώ (λc=>h5 c.2.1)];by_cases h7:a.act=7
  ·have e:doR s a=((s.leave a.sub).1,(s.leave a.sub).2,ύ):=by unfold doR;simp[h7]
   rw[e];simp only;unfold RmS.leave;split
   ·rw[ώ (λc=>by have:=c.1;simp at this)]
   ·split
    ·rename_i d;have H:0<=a.sub/\a.sub<6:=by
      unfold zW at d;split at d
      ·assumption
      ·simp at d
     have N:(qh s.tab.u a.sub).isSome=ό:=by
      unfold zW at d;rw[ϐ H] at d;split at d
      ·assumption
      ·simp at d
     have I:(zW s.tab a.sub).1.u=yK s.tab.u a.sub:=by
      unfold zW;rw[ϐ H,ϐ N]
     by_cases hxs:x=a.sub
     ·rw[ϐ ⟨rfl,h7,hxs⟩];unfold EF;simp only;rw[I,gD af,ϐ hxs]
     ·rw[ώ (λc=>hxs c.2.2)];refine Ob ?_;simp only;rw[I,gD af,ώ hxs]
    ·rename_i d;rw[ώ (λc=>d c.1)]
  ·rw[ώ (λc=>h7 c.2.1)];by_cases h1:a.act=1
   ·rw[Xn a h1] at U ⊢;refine Ob ?_;unfold RmS.pick at U ⊢;split at U
    ·rename_i aa;rw[ϐ aa];exact(Rj s a.w a.acc).tab x U
    ·rename_i aa;rw[ώ aa]
   ·by_cases h4:a.act=4
    ·have e:doR s a=((s.join a.sub a.own a.seq a.stamp).1,(s.join a.sub a.own a.seq a.stamp).2,ύ):=by unfold doR;simp[h4]
     rw[e];simp only;unfold RmS.join;split
     ·rfl
     ·split
      ·rename_i d;have H:0<=a.sub/\a.sub<6:=by
        unfold yI at d;split at d
        ·assumption
        ·simp at d
       have ab:(qh s.tab.u a.sub).isSome=ύ:=by
        unfold yI at d;rw[ϐ H] at d;split at d
        ·simp at d
        ·rename_i c;simpa using c
       have I:(yI s.tab a.sub a.own).1.u=qx s.tab.u a.sub (a.own,ύ,0):=by
        unfold yI;rw[ϐ H,ώ (by rw[ab];decide)]
       by_cases hxs:x=a.sub
       ·unfold EF;simp only;rw[I,qF,ϐ hxs,hxs];cases hb:qh s.tab.u a.sub with
        | none=>rfl
        | some ac=>rw[hb] at ab;cases ab
       ·refine Ob ?_;simp only;rw[I,qF,ώ hxs]
      ·rfl
    ·refine Ob ?_;unfold doR;split
     ·unfold RmS.arrive;split
      ·rfl
      ·split<;>rfl
     ·split
      ·unfold RmS.tick;split
       ·rfl
       ·exact ϯ (λt:TS=>qh t.u x) (ur s.origins {s with clock:=s.clock+1}).tab
      ·split
       ·unfold RmS.publish;split
        ·rfl
        ·split
         ·simp only;rw[Rz]
         ·rfl
       ·split
        ·unfold RmS.want;split
         ·rfl
         ·split
          ·rfl
          ·split
           ·rfl
           ·cases qh s.lanes a.sub<;>rfl
        ·split
         ·unfold RmS.shut;split<;>rfl
         ·rfl
def NX (sf:Og->Option Int) (a:A22) (e:Int):Og->Option Int:=λo=>if e=0/\a.act=3 then (if o=(a.pub,2) then ϊ a.s2 else if o=(a.pub,1) then ϊ a.s1 else if o=(a.pub,0) then ϊ a.s0 else sf o) else sf o
def NY (pu:Int->Int) (a:A22) (e:Int) (s':RmS):Int->Int:=λx=>
 if (s'.ln x).gone then -1 else if e=0/\a.act=5/\x=a.sub then a.pub else if e=0/\a.act=7/\x=a.sub then -1 else pu x
def Rk (H:qV n s) (J:(s.tab.u.map Prod.fst).Nodup) (a:A22) (I:qV (n+1) (doR s a).1) (x:Int):NY (EF s) a (doR s a).2.1 (doR s a).1 x=EF (doR s a).1 x:=by
 unfold NY;cases hg:((doR s a).1.ln x).gone with
 | false=>simp only[Ϯ,C2];exact(Tq H J a x hg).symm
 | true=>
  rw[ϐ rfl];unfold EF;cases hb:qh (doR s a).1.tab.u x with
  | none=>rfl
  | some sb=>
   simp only;cases hs:sb.2.1 with
   | false=>rfl
   | true=>
    obtain⟨l,d,G,_⟩:=I.tb.act x sb hb hs;rw[OE d,G] at hg;cases hg
def S0 {p:Pk} (J:jJ p=ό) (d:uf p) {sq st sc:Int} (O:U16 sq) (U:U32 st) (N:U32 sc):jl (pkB {p with sq:=sq,st:=st,sc:=sc})=({p with sq:=sq,st:=st,sc:=sc},0):=by
 have H:jJ {p with sq:=sq,st:=st,sc:=sc}=ό:=J;have M:uf {p with sq:=sq,st:=st,sc:=sc}:=⟨d.ty,O,U,N,d.ss,d.pr,d.ex,d.pl⟩;have I:=Ey {p with sq:=sq,st:=st,sc:=sc};have G:=((yq _).1 H).2.2.2.2;rw[<-I] at G;exact Su H M p.pl (by unfold pkB at G;rw[Ϗ] at G;simp only at G;omega)
def SR (Y:qV n s) (a:A22) (x:Int) (l l':LnS) (J:qh s.lanes x=ϊ l) (d:qh (doR s a).1.lanes x=ϊ l') (M:l.gone=ύ) (H:l'.gone=ό):(doR s a).1.pks=s.pks/\List.Sublist (EI l') (EI l):=by
 have G:(doR s a).1.lanes=s.lanes->(doR s a).1.pks=s.pks/\List.Sublist (EI l') (EI l):=λe=>by
  rw[e,J] at d;injection d with d
  rw[<-d,M] at H;cases H
 have N: ∀{y:Int} {m:LnS},(doR s a).1.lanes=qx s.lanes y m->(y=x->m.gone=l.gone)->(doR s a).1.pks=s.pks/\List.Sublist (EI l') (EI l):=λ{y m} e I=>by
  rw[e,qF] at d;split at d
  ·rename_i c;injection d with d
   rw[<-d,I c.symm,M] at H;cases H
  ·rw[J] at d;injection d with d
   rw[<-d,M] at H;cases H
 by_cases ha1:a.act=1
 ·rw[Xn a ha1] at d ⊢;unfold RmS.pick at d ⊢;split at d
  ·rename_i O;rw[ϐ O];exact(Rj s a.w a.acc).gone x l l' J d M H
  ·rename_i O;simp only at d;rw[J] at d;injection d with d
   rw[<-d,M] at H;cases H
 ·by_cases ha4:a.act=4
  ·have e:doR s a=((s.join a.sub a.own a.seq a.stamp).1,(s.join a.sub a.own a.seq a.stamp).2,ύ):=by unfold doR;simp[ha4]
   by_cases hc:s.closed=ό
   ·exact G (by rw[e];unfold RmS.join;rw[ϐ hc])
   ·by_cases hz:(yI s.tab a.sub a.own).2=0
    ·refine N (y:=a.sub) (m:=Vd s.cfg.room.toNat s.cfg.most a.own a.seq a.stamp) (by rw[e];unfold RmS.join;rw[ώ hc,ϐ hz]) λ_=> ?_
     rw[M];rfl
    ·exact G (by rw[e];unfold RmS.join;rw[ώ hc,ώ hz])
  ·by_cases ha5:a.act=5
   ·have e:doR s a=((s.subscribe a.sub a.pub a.layer).1,(s.subscribe a.sub a.pub a.layer).2,ύ):=by unfold doR;simp[ha5]
    by_cases hc:s.closed=ό
    ·exact G (by rw[e];unfold RmS.subscribe;rw[ϐ hc])
    ·by_cases ht:jj a.layer=ύ
     ·exact G (by rw[e];unfold RmS.subscribe;rw[ώ hc,ϐ ht])
     ·by_cases I:JV s a.sub=ό
      ·exact G (by rw[e];unfold RmS.subscribe;rw[ώ hc,ώ ht,ϐ I])
      ·by_cases hz:(vL s.tab a.sub a.pub).2=0
       ·cases hl:qh s.lanes a.sub with
        | none=>exact G (by rw[e];unfold RmS.subscribe;rw[ώ hc,ώ ht,ώ I,ϐ hz,hl])
        | some m=>
         refine N (y:=a.sub) (m:=(jO m a.layer).1) (by rw[e];unfold RmS.subscribe;rw[ώ hc,ώ ht,ώ I,ϐ hz,hl]) λc=> ?_
         rw[c,J] at hl;injection hl with hl
         subst hl;rcases NR (s:=l) a.layer with e | ⟨_,e⟩<;>rw[e]
       ·exact G (by rw[e];unfold RmS.subscribe;rw[ώ hc,ώ ht,ώ I,ώ hz])
   ·by_cases ha6:a.act=6
    ·have e:doR s a=((s.want a.sub a.layer).1,(s.want a.sub a.layer).2,ύ):=by unfold doR;simp[ha6]
     by_cases hc:s.closed=ό
     ·exact G (by rw[e];unfold RmS.want;rw[ϐ hc])
     ·by_cases ht:(decide (0<=a.sub/\a.sub<6)&&jj a.layer)=ύ
      ·exact G (by rw[e];unfold RmS.want;rw[ώ hc,ϐ ht])
      ·by_cases I:((qh s.tab.u a.sub).getD sb0).2.1=ύ
       ·exact G (by rw[e];unfold RmS.want;rw[ώ hc,ώ ht,ϐ I])
       ·cases hl:qh s.lanes a.sub with
        | none=>exact G (by rw[e];unfold RmS.want;rw[ώ hc,ώ ht,ώ I,hl])
        | some m=>
         refine N (y:=a.sub) (m:=(jO m a.layer).1) (by rw[e];unfold RmS.want;rw[ώ hc,ώ ht,ώ I,hl]) λc=> ?_
         rw[c,J] at hl;injection hl with hl
         subst hl;rcases NR (s:=l) a.layer with e | ⟨_,e⟩<;>rw[e]
    ·by_cases ha7:a.act=7
     ·have e:doR s a=((s.leave a.sub).1,(s.leave a.sub).2,ύ):=by unfold doR;simp[ha7]
      by_cases hc:s.closed=ό
      ·exact G (by rw[e];unfold RmS.leave;rw[ϐ hc])
      ·by_cases hz:(zW s.tab a.sub).2=0
       ·have U:(doR s a).1.lanes=Yh s.lanes a.sub:=by rw[e];unfold RmS.leave;rw[ώ hc,ϐ hz]
        rw[U,uR] at d;split at d
        ·cases d
        ·rw[J] at d;injection d with d
         rw[<-d,M] at H;cases H
       ·exact G (by rw[e];unfold RmS.leave;rw[ώ hc,ώ hz])
     ·refine G ?_;unfold doR;split
      ·unfold RmS.arrive;split
       ·rfl
       ·split<;>rfl
      ·split
       ·unfold RmS.tick;split
        ·rfl
        ·exact(ur s.origins {s with clock:=s.clock+1}).lanes
       ·split
        ·unfold RmS.publish;split
         ·rfl
         ·split<;>rfl
        ·split
         ·unfold RmS.shut;split<;>rfl
         ·rfl
structure Oa (n:Nat) (s:RmS) (jo:Int->Int):Prop where
 ok:qV n s
 sq:EO s
 co:NG s
 pb:NF s
 src:Ov s jo
 own: ∀x,U32 (jo x)
 num: ∀a∈s.pks,1<=a.num
def OU (h:Oa n s jo) (x:Int) (k:Nat) (d:k<(s.ln x).W.length):
  (0<=(s.ln x).W[k].1/\(s.ln x).W[k].1<(s.pks.length:Int))/\1<=(acP s.pks (s.ln x).W[k].1).num/\
  (∃sq st,U16 sq/\U32 st/\jl (s.ln x).W[k].2=({(acP s.pks (s.ln x).W[k].1).pk with sq:=sq,st:=st,sc:=jo x},0))/\
  ∀j (G:j<k),(s.ln x).W[j].1≠(s.ln x).W[k].1/\((acP s.pks (s.ln x).W[j].1).o=(acP s.pks (s.ln x).W[k].1).o->(acP s.pks (s.ln x).W[j].1).num<(acP s.pks (s.ln x).W[k].1).num):=by
 cases hl:qh s.lanes x with
 | none=>
  have:(s.ln x).W=[]:=by unfold RmS.ln;rw[hl];rfl
  rw[this] at d;cases d
 | some l=>
  have M:=OE hl;simp only[M] at d ⊢;have N: ∀j (G:j<l.W.length),l.W[j].1∈EI l:=λj G=>by
   unfold EI;exact Θ _ (B6.2 ⟨l.W[j],ϛ G,rfl⟩)
  obtain⟨Y,_⟩:=h.sq.inn x l hl _ (N k d);have I:acP s.pks l.W[k].1∈s.pks:=by
   unfold acP;have J:l.W[k].1.toNat<s.pks.length:=by omega
   rw[ϑ,ϖ J];exact ϛ J
  refine⟨Y,h.num _ I, ?_,λj G=> ?_⟩
  ·obtain⟨sq,st,a,b,c⟩:=(h.co x l hl).W l.W[k] (ϛ d);obtain⟨O,_,U⟩:=h.ok.num.pkok _ I;refine⟨sq,st,a,b, ?_⟩;rw[c,h.src x l hl];exact S0 U O a b (h.own x)
  ·have H:=h.sq.ord x l hl;unfold EI at H;rw[List.pairwise_append] at H;have:=P1.1 H.1 j k (by rw[A6];omega) (by rw[A6];exact d) G;simp only[J1] at this;exact this
def Sr (U:qV n s) (aq:(s.tab.u.map Prod.fst).Nodup) (am:NF s) (a:A22) (ac:qV (n+1) (doR s a).1) (an:NF (doR s a).1) (M: ∀y sb,qh s.tab.u y=ϊ sb->sb.2.1=ό->0<=sb.2.2) (ao: ∀y sb,qh (doR s a).1.tab.u y=ϊ sb->sb.2.1=ό->0<=sb.2.2) (x:Int) (k:Nat) (J:k<((doR s a).1.ln x).W.length)
  (au:0<=max (EF s x) (EF (doR s a).1 x)):(acP (doR s a).1.pks ((doR s a).1.ln x).W[k].1).o.1=max (EF s x) (EF (doR s a).1 x):=by
 cases hl:qh (doR s a).1.lanes x with
 | none=>
  have:((doR s a).1.ln x).W=[]:=by unfold RmS.ln;rw[hl];rfl
  rw[this] at J;cases J
 | some l'=>
  have O:=OE hl;simp only[O] at J ⊢;have ad:l'.W[k].1∈EI l':=by
   unfold EI;exact Θ _ (B6.2 ⟨l'.W[k],ϛ J,rfl⟩)
  have H:=Rk U aq a ac x;unfold NY at H;have Y: ∀{s:RmS},EF s x<0∨ ∃sb,qh s.tab.u x=ϊ sb/\sb.2.1=ό/\EF s x=sb.2.2:=λ{s}=>by
   unfold EF;cases hb:qh s.tab.u x with
   | none=>exact ϒ ζ
   | some sb=>
    simp only;cases G:sb.2.1 with
    | false=>exact ϒ η
    | true=>exact ϔ ⟨sb,rfl,G,η⟩
  have ak:EF s x<0->EF s x= -1:=λe=>by
   unfold EF at e ⊢;cases hb:qh s.tab.u x with
   | none=>rfl
   | some sb=>
    rw[hb] at e;simp only at e ⊢;cases G:sb.2.1 with
    | false=>rfl
    | true=>
     rw[G] at e;have:=M x sb hb G;simp only[A0] at e;omega
  rcases Y (s:=(doR s a).1) with hn | ⟨sb,h1,h2,h3⟩
  ·rcases Y (s:=s) with hn' | ⟨sb,h1,h2,h3⟩
   ·omega
   ·have al:max (EF s x) (EF (doR s a).1 x)=EF s x:=by
     have:=M x sb h1 h2;omega
    rw[al];cases hg:l'.gone with
    | false=>
     rw[O,hg] at H;simp only[Ϯ,C2] at H;have ah:=M x sb h1 h2;split at H
     ·rename_i c;exfalso;have N:doR s a=((s.subscribe a.sub a.pub a.layer).1,(s.subscribe a.sub a.pub a.layer).2,ύ):=by unfold doR;simp[c.2.1]
      have d:=c.1;rw[N] at d;simp only at d;unfold RmS.subscribe at d;split at d
      ·simp at d
      ·split at d
       ·simp at d
       ·split at d
        ·simp at d
        ·split at d
         ·rename_i G;have aa:=c.2.2;unfold vL at G;split at G
          ·split at G
           ·rw[<-aa,h1] at G;simp only[ϥ,h2,A0] at G;simp at G
           ·simp at G
          ·simp at G
         ·rename_i G;exact G d
     ·split at H
      ·rename_i c;exfalso;have ag:doR s a=((s.leave a.sub).1,(s.leave a.sub).2,ύ):=by unfold doR;simp[c.2.1]
       have d:=c.1;rw[ag] at d hl;simp only at d hl;unfold RmS.leave at d hl;split at d
       ·simp at d
       ·rename_i ai;rw[ώ ai] at hl;split at d
        ·rename_i G;rw[ϐ G] at hl;simp only at hl;rw[uR,ϐ c.2.2] at hl;cases hl
        ·rename_i G;exact G d
      ·omega
    | true=>
     obtain⟨l,I,ab,_⟩:=U.tb.act x sb h1 h2;obtain⟨ae,af⟩:=SR U a x l l' I hl ab hg;rw[ae,h3];exact(am.seq x l sb I h1).1 h2 _ (af.subset ad)
  ·have ap:=(an.seq x l' sb hl h1).1 h2 _ ad;rw[ap,<-h3];have aj:l'.gone=ύ:=by
    obtain⟨m,I,ab,_⟩:=ac.tb.act x sb h1 h2;rw[hl] at I;injection I with I
    rw[I];exact ab
   rw[O,aj] at H;simp only[Ϯ,C2] at H;rcases Y (s:=s) with hn' | ⟨sb',h1',h2',h3'⟩
   ·have:=ak hn';omega
   ·have ah:=M x sb' h1' h2';have ar:=ao x sb h1 h2;split at H
    ·rename_i c;exfalso;have N:doR s a=((s.subscribe a.sub a.pub a.layer).1,(s.subscribe a.sub a.pub a.layer).2,ύ):=by unfold doR;simp[c.2.1]
     have d:=c.1;rw[N] at d;simp only at d;unfold RmS.subscribe at d;split at d
     ·simp at d
     ·split at d
      ·simp at d
      ·split at d
       ·simp at d
       ·split at d
        ·rename_i G;have aa:=c.2.2;unfold vL at G;split at G
         ·split at G
          ·rw[<-aa,h1'] at G;simp only[ϥ,h2',A0] at G;simp at G
          ·simp at G
         ·simp at G
        ·rename_i G;exact G d
    ·split at H<;>omega
def Of (s:RmS):Prop:= ∀x sb,qh s.tab.u x=ϊ sb->sb.2.1=ό->0<=sb.2.2/\sb.2.2<3
def Of.same (h:Of s) (e:s'.tab.u=s.tab.u):Of s':=λx d a b=>h x d (by rw[<-e];exact a) b
def Of.put (h:Of s) {q:Sb} (e:s'.tab.u=qx s.tab.u x q) (d:q.2.1=ό->0<=q.2.2/\q.2.2<3):Of s':=λy G a b=>by
 rw[e,qF] at a;split at a
 ·injection a with a;rw[<-a] at b ⊢;exact d b
 ·exact h y G a b
def Of.act (h:Of s) (J:(s.tab.u.map Prod.fst).Nodup) (a:A22):Of (doR s a).1:=by
 have I: ∀w acc,Of (s.stepW w acc):=λw acc=>by
  unfold RmS.stepW;split
  ·unfold RmS.endW;have G:Of (s.drain w):=h.same (Ou s w).tab;split
   ·exact G
   ·exact G
  ·split
   ·unfold RmS.read;cases s.queue with
    | nil=>exact h
    | cons b q=>
     simp only;split
     ·exact h.same (OH {s with queue:=q} b).tab
     ·unfold RmS.media;split
      ·cases qh ({s with queue:=q}:RmS).tab.o (jl b).1.sc with
       | none=>exact h
       | some o=>
        simp only;unfold RmS.accept;cases qh ({s with queue:=q}:RmS).strs o<;>exact h
      ·exact h
   ·split
    ·exact h.same (ϯ TS.u (kr s).tab)
    ·split
     ·exact h.same (ϯ TS.u (vu s _).tab)
     ·split
      ·exact h.same (ϯ TS.u (yA s _).tab)
      ·unfold RmS.write;cases qh s.lanes w.2 with
       | none=>exact h
       | some l=>
        simp only;cases hg:(qX l acc).1.gone with
        | false=>simp only[Ϯ,C2];exact h
        | true=>
         simp only[A0];unfold zM;split
         ·split
          ·exact h.put (s':={s with tab:={s.tab with u:=qx s.tab.u w.2 (((qh s.tab.u w.2).getD sb0).1,ύ,0)}}) rfl (λe=>by cases e)
          ·exact h
         ·exact h
 unfold doR;split
 ·unfold RmS.arrive;split
  ·exact h
  ·split<;>exact h
 ·split
  ·unfold RmS.pick;split
   ·exact I _ _
   ·exact h
  ·split
   ·unfold RmS.tick;split
    ·exact h
    ·exact h.same (ϯ TS.u (ur s.origins {s with clock:=s.clock+1}).tab)
   ·split
    ·unfold RmS.publish;split
     ·exact h
     ·split
      ·exact h.same (Rz _ _ _ _ _)
      ·exact h
    ·split
     ·unfold RmS.join;split
      ·exact h
      ·split
       ·unfold yI;split
        ·split
         ·exact h
         ·exact h.put (s':={s with tab:={s.tab with u:=qx s.tab.u a.sub (a.own,ύ,0)}}) rfl (λe=>by cases e)
        ·exact h
       ·exact h
     ·split
      ·unfold RmS.subscribe;split
       ·exact h
       ·split
        ·exact h
        ·split
         ·exact h
         ·split
          ·cases qh s.lanes a.sub with
           | none=>exact h
           | some l=>
            simp only;unfold vL;split
            ·rename_i M;split
             ·split
              ·exact h
              ·exact h.put (s':={s with tab:={s.tab with u:=qx s.tab.u a.sub (((qh s.tab.u a.sub).getD sb0).1,ό,a.pub)}}) rfl (λ_=>M.2)
             ·exact h
            ·exact h
          ·exact h
      ·split
       ·unfold RmS.want;split
        ·exact h
        ·split
         ·exact h
         ·split
          ·exact h
          ·cases qh s.lanes a.sub<;>exact h
       ·split
        ·unfold RmS.leave;split
         ·exact h
         ·split
          ·unfold zW;split
           ·split
            ·intro x N d H;simp only at d;rw[gD J] at d;split at d
             ·cases d
             ·exact h x N d H
            ·exact h
           ·exact h
          ·exact h
        ·split
         ·unfold RmS.shut;split<;>exact h
         ·exact h
def Tc (G:qV n s) (h: ∀a∈s.pks,1<=a.num) (a:A22): ∀b∈(doR s a).1.pks,1<=b.num:=by
 have J:(doR s a).1.pks=s.pks-> ∀b∈(doR s a).1.pks,1<=b.num:=λe=>by rw[e];exact h
 by_cases h1:a.act=1
 ·rw[Xn a h1];unfold RmS.pick;split
  ·unfold RmS.stepW;split
   ·show ∀b∈(s.endW a.w).pks,_;rw[(Rn s a.w).pks];exact h
   ·split
    ·unfold RmS.read;cases hq:s.queue with
     | nil=>exact h
     | cons b q=>
      simp only;split
      ·rw[(Ri {s with queue:=q} b).pks];exact h
      ·unfold RmS.media;split
       ·rename_i I;cases qh ({s with queue:=q}:RmS).tab.o (jl b).1.sc with
        | none=>exact h
        | some o=>
         simp only;unfold RmS.accept;cases ht:qh ({s with queue:=q}:RmS).strs o with
         | none=>exact h
         | some t=>
          intro c d;simp only at d;rcases ϡ.1 d with d | d
          ·exact h c d
          ·rw[Δ] at d;rw[d];have H:=(G.num.queue b (by rw[hq];exact Ϟ)).1;have:=(WS (t:=t) (Xc H I).2.2.2 (λe=>G.num.great o t ht e)).1;simp only;omega
       ·exact h
    ·split
     ·show ∀b∈s.order.pks,_;rw[(kr s).pks];exact h
     ·split
      ·show ∀b∈(s.choose a.w.2).pks,_;rw[(vu s _).pks];exact h
      ·split
       ·show ∀b∈(s.rewrite a.w.2).pks,_;rw[(yA s _).pks];exact h
       ·show ∀b∈(s.write a.w.2 a.acc).pks,_;rw[(OT s _ _).pks];exact h
  ·exact h
 ·refine J ?_;unfold doR;split
  ·unfold RmS.arrive;split
   ·rfl
   ·split<;>rfl
  ·split
   ·unfold RmS.tick;split
    ·rfl
    ·exact(ur s.origins {s with clock:=s.clock+1}).pks
   ·split
    ·unfold RmS.publish;split
     ·rfl
     ·split<;>rfl
    ·split
     ·unfold RmS.join;split
      ·rfl
      ·split<;>rfl
     ·split
      ·unfold RmS.subscribe;split
       ·rfl
       ·split
        ·rfl
        ·split
         ·rfl
         ·split
          ·cases qh s.lanes a.sub<;>rfl
          ·rfl
      ·split
       ·unfold RmS.want;split
        ·rfl
        ·split
         ·rfl
         ·split
          ·rfl
          ·cases qh s.lanes a.sub<;>rfl
       ·split
        ·unfold RmS.leave;split
         ·rfl
         ·split<;>rfl
        ·split
         ·unfold RmS.shut;split<;>rfl
         ·rfl
def Oa.act (h:Oa n s jo) (d:(s.tab.u.map Prod.fst).Nodup) (a:A22) (G:Byt a.b) (H:a.b.length<=400) (M: ∀v∈[a.s0,a.s1,a.s2],0<=v/\v<=4294967295) (J:U16 a.seq) (I:U32 a.own):
  Oa (n+1) (doR s a).1 (MR jo a (doR s a).2.1):=
 ⟨KZ h.ok d a G H M,h.sq.act h.ok a,h.co.act h.sq a J,h.pb.act h.sq h.ok d a,h.src.act a,λx=>by unfold MR;split;exact I;exact h.own x,Tc h.ok h.num a⟩
def Oa.start {c:CfR} (d:xY c=ό):Oa 0 (ud c) (λ_=>0):=
 ⟨uQ d,EO.start c,NG.start c,NF.start c,λx l h=>(by cases h),λ_=>(by unfold U32;decide),λa h=>(by cases h)⟩
def Of.start (c:CfR):Of (ud c):=λx d h=>by cases h
structure IdL (s:RmS) (W:List (Int×List Int)) (k:Nat) (Li:List (Int×Int)) (Ll:List (Og×Int)):Prop where
 ids: ∀i v,qh Li i=ϊ v-> ∃j,∃h:j<W.length,j<k/\W[j].1=i
 lst: ∀o v,qh Ll o=ϊ v-> ∃j,∃h:j<W.length,j<k/\(acP s.pks W[j].1).o=o/\(acP s.pks W[j].1).num=v
def IdL.zero (s:RmS) (W:List (Int×List Int)):IdL s W 0 [] []:=⟨(λi v h=>by cases h),(λo v h=>by cases h)⟩
def IdL.next {W:List (Int×List Int)} {k:Nat} (h:IdL s W k d G) (H:k<W.length) (u:Int):
  IdL s W (k+1) (qx d W[k].1 u) (qx G (acP s.pks W[k].1).o (acP s.pks W[k].1).num):=by
 refine⟨λi v e=> ?_,λo v e=> ?_⟩
 ·rw[qF] at e;split at e
  ·rename_i c;exact⟨k,H,F5 k,c.symm⟩
  ·obtain⟨j,a,b,c⟩:=h.ids i v e;exact⟨j,a,τ,c⟩
 ·rw[qF] at e;split at e
  ·rename_i c;injection e with e
   exact⟨k,H,F5 k,c.symm,e⟩
  ·obtain⟨j,a,b,c⟩:=h.lst o v e;exact⟨j,a,τ,c⟩
def IdL.look (h:Oa n s jo) (x:Int) {k:Nat} (q:IdL s (s.ln x).W k d G) (J:k<(s.ln x).W.length):
  qh d (s.ln x).W[k].1=ϋ/\(qh G (acP s.pks (s.ln x).W[k].1).o).getD 0<(acP s.pks (s.ln x).W[k].1).num:=by
 obtain⟨_,M,_,H⟩:=OU h x k J;refine⟨?_, ?_⟩
 ·cases e:qh d (s.ln x).W[k].1 with
  | none=>rfl
  | some v=>
   obtain⟨j,a,b,c⟩:=q.ids _ v e;exact ϩ c (H j b).1
 ·cases e:qh G (acP s.pks (s.ln x).W[k].1).o with
  | none=>show (0:Int)<_;omega
  | some v=>
   obtain⟨j,a,b,c,I⟩:=q.lst _ v e;show v<_;rw[<-I];exact(H j b).2 c
def Lf (h:RmX T w0 w k vp vr s F) {b:List Int} {I:Nat} (au:SlI .u8 w (δ H b.length I) b) (M:Byt b) (ag:b≠[]-> ∀g,(δ H b.length I).ownBlock=ϊ g->T g= .data/\g<w.heap.size):
  Calls prog 83 #[γ k.RQ,δ H b.length I] w λe w'=> ∃vx,e= .returned (.tuple #[vx,(!decide (s.queue.length<s.cfg.room.toNat)),ι 0])/\
   qI w0 w' k {s with queue:=if s.queue.length<s.cfg.room.toNat then s.queue++[b] else s.queue.tail++[b]} F/\qw F w w'/\jt (RgB k.RQ k.AQ) w w':=by
 obtain⟨f,Q,ae,af,ac,ad,css,g,a⟩:=h.que;obtain⟨t1,t2,_⟩:=h.all .queue;have ah:=g.fits;have ai:=a.len;have key: ∀{w':World} {D:Nat->Prop},jt (RgB k.RQ k.AQ) w w'->(∀c,D c->T c≠ .data∨w.heap.size<=c)->jw RBy D w' [δ H b.length I] b:=by
  intro w' D d G w'' ak
  have s1:=au.off2 (D:=RgB k.RQ k.AQ) (λaa c Y ab=>by
   have:=(ag aa c Y).1;rcases ab with rfl | rfl
   ·rw[t1] at this;cases this
   ·rw[t2] at this;cases this) d
  refine⟨_,rfl,s1.off2 (D:=D) (λaa c Y ab=> ?_) ak,M⟩;obtain⟨ao,av⟩:=ag aa c Y;rcases G c ab with q | q
  ·exact q ao
  ·omega
 have aj: ∀{w':World} {D:Nat->Prop} {J:List (List Value)} {q':List (List Int)},zb (jw RBy (λb=>T b≠ .data) w) J q'->jt (RgB k.RQ k.AQ) w w'->(∀c,D c->T c≠ .data∨w.heap.size<=c)->zb (jw RBy D w') J q':=by
  intro w' D J q' a d G;have al:jt (λb=>T b≠ .data) w w':=d.mono λb M=>by
   rcases M with rfl | rfl
   ·rw[t1];simp
   ·rw[t2];simp
  exact a.mono λc y ap=>(ap.step al).other λb M=>(G b M).elim ϒ (λx=>ϒ (by rw[h.fresh b x];simp))
 by_cases hq:s.queue.length<s.cfg.room.toNat
 ·rw[ϐ hq,ϭ hq];refine(UB w _ _ _ f Q ae af ac ad css g τ H _ I).mono ?_;rintro e w' ⟨rfl,⟨an,am,g'⟩,d⟩;obtain⟨O,U⟩:=h.ring (q:=s.queue++[b]) d (λD G=>⟨_,_,_,_,_,_,_,g',(aj a d G).snoc (key d G)⟩);exact⟨_,rfl,O,U,d⟩
 ·rw[ώ hq,ϫ hq];have N:Q.length=s.cfg.room.toNat:=by omega
  have aw:=g.pos
  match hQ:Q,a,N,g,ai,ah with
  | [],_,N,_,_,_=>simp at N;omega
  | c::J,a,N,g,ai,ah=>
   cases hs:s.queue with
   | nil=>rw[hs] at a;exact a.elim
   | cons b0 q0=>
    rw[hs] at a;obtain⟨v,rfl,⟨aq,ar,rfl,_⟩,_⟩:=a.1.read;refine(UC w _ _ _ f aq _ ar J ae af ac ad css g N H _ I).mono ?_;rintro e w' ⟨rfl,⟨an,am,g'⟩,d⟩;obtain⟨O,U⟩:=h.ring (q:=q0++[b]) d (λD G=>⟨_,_,_,_,_,_,_,g',(aj a.2 d G).snoc (key d G)⟩);exact⟨_,rfl,by rw[T5];exact O,U,d⟩
def Gf (aG:qI w0 w k s F) (b:List Int) (v:Value) (au:SlI .u8 w v b) (an:Byt b) (ao:b.length<=1000000) (aH:0<=s.cnt.lost/\s.cnt.lost<=1000000000):
  Calls prog 33 #[γ k.R,v] w λe w'=>e= .returned (ι (s.arrive b).2)/\qI w0 w' k (s.arrive b).1 F/\qw F w w':=by
 obtain⟨T,vp,aR,h⟩:=aG;have d:=κ h;have aE:=β7 h.blk;obtain⟨aF,aa⟩:=ν (s.closed);rw[aa] at aE;have af:=κ aa;clear aa h;cases aF with
 | true=>
  have H:Hid (s.arrive b=(s,7)):=κ (by unfold RmS.arrive;rw[ϐ af.o]);rw[H.o]
  go_enter func33,ntmps33
  go_wp2;go_ret;exact⟨rfl,d.o.at,qw.refl _ _⟩
 | false=>
  obtain⟨aj,ab⟩:=ν ((!decide (s.queue.length<s.cfg.room.toNat)));obtain⟨J,ac⟩:=ν ((if s.queue.length<s.cfg.room.toNat then s.queue++[b] else s.queue.tail++[b]))
  have H:Hid (s.arrive b=if aj then ({s with queue:=J,cnt:={s.cnt with lost:=s.cnt.lost+1}},0) else ({s with queue:=J},0)):=κ (by
   have aO:=d.o.que.fit;rw[<-ab,<-ac];unfold RmS.arrive;rw[ώ (by rw[af.o];decide)];by_cases hc:s.queue.length<s.cfg.room.toNat
   ·rw[ϐ τ,ϭ hc,ϐ hc];rfl
   ·rw[ώ τ,ϫ hc,ώ hc]
    rfl)
  have aA:=κ (wQ v b (w.drewN 1) (au.keep (ql.drewN w 1)) ao);have az:=κ an;have aB:=κ d.o.fresh;have aI: ¬RgB k.RQ k.AQ k.R:=by
   obtain⟨ar,J,_⟩:=d.o.all .queue;rintro(e | e)
   ·rw[<-e,(d.o.all .room).1] at ar;cases ar
   ·rw[<-e,(d.o.all .room).1] at J;cases J
  have ax:=λ(x:qz (RgB k.RQ k.AQ) w)=>β10 (x.h.blk d.o.blk aI)
  obtain⟨aP,aQ⟩:=aH;have aC:Hid ((b.length:Int)<=9223372036854775807):=κ τ;clear au an ao
  go_enter func33,ntmps33
  go_upto_region 3 with fail
  refine QN (RgB k.RQ k.AQ) w 14 14 [5,6] ?_
  refine Qs5 ?_
  (refine Ql ?_;intro K I)
  (with_reducible refine aA.o.mono ?_)
  rintro e w5 ⟨⟨v5,rfl,N⟩,aq⟩;have M:Hid (ql w w5):=κ ((ql.drewN w 1).trans aq);have Y:=κ (SlI.of_owns N aC.o);have ay:Hid (∀g,v5.ownBlock=ϊ g->w.heap.size<=g):=κ (λg G=>jS N G);obtain⟨aJ,aK,rfl⟩:=xl N;clear N aq;refine⟨_,rfl,qi (jt.of_more M.o),I _ _ ?_⟩;clear I K ax
  obtain⟨aL,aw,am,_⟩:=(d.o.on M.o).data (λg=>b≠[]/\(δ aJ b.length aK).ownBlock=ϊ g) (λg G=>by
   have ak:w.heap.size<=g:=ay.o g G.2
   exact⟨aB.o g ak,Ϙ d.o.more.size ak,Y.o.old G.1 G.2,λhF=>by have:=(d.o.law g hF).2.2;omega⟩)
  have ag:=κ (Lf aw Y.o az.o (λap g G=>⟨am g ⟨ap,G⟩,Y.o.old ap G⟩));rw[ab,ac] at ag;have aD:=κ (d.o.at.stay M.o);clear aw am ab ac
  (refine Ql ?_;intro K I)
  (with_reducible refine ag.o.mono ?_)
  rintro e w6 ⟨aS,rfl,al,av,ai⟩;have U:=κ al;have ah:=κ (aD.o.trans av);have ad:Hid (jt (RgB k.RQ k.AQ) w w6):=κ ((jt.of_more M.o).trans ai);clear al av ai;refine⟨_,rfl,qi ad.o,I _ _ ?_⟩;clear I K
  iterate 7 (refine qE rfl rfl (qi ad.o) ?_;intro K I;go_big_quiet_op;go_big_quiet_on)
  refine qA ?_;obtain⟨_,_,O⟩:=U.o.blk;have aM:=β16 O;have aN:=yw O 16;clear O;cases aj with
  | false=>
   go_wp2;go_ret;exact⟨by rw[H.o];rfl,by rw[H.o];exact U.o,ah.o⟩
  | true=>
   have ae:=κ (U.o.cell 16 (ι (s.cnt.lost+1)) (s':={s with queue:=J,cnt:={s.cnt with lost:=s.cnt.lost+1}}) (λ_ _=>rfl) ⟨rfl,rfl,rfl,rfl,rfl,rfl,rfl,rfl,rfl⟩);go_wp2;go_ret;exact⟨by rw[H.o];rfl,by rw[H.o];exact ae.o.1,ah.o.trans ae.o.2⟩
def zw.wide {I G:Nat->Prop} {L:Nat} (h:zw I w L l) (H: ∀b,I b->G b) (M: ∀b,G b->b<w.heap.size):zw G w L l:=by
 obtain⟨k,vo,e,x⟩:=h;have J: ∀b,lnE G k vo b->lnE I k vo b:=λb d=>d.elim (λq=>ϒ λn=>q (H b n)) ϔ
 have a:jt (λ_=>False) w w:=jt.refl _ w
 exact⟨k,vo,e,⟨M,λb d=>H b (x.muts b d),x.dist,x.blk,x.r1.step a (λq=>q) (λq=>q) (λb q=>q.elim) (λb d=>ϒ (J b d)),x.r2.step a (λq=>q) (λq=>q) (λb q=>q.elim) (λb d=>ϒ (J b d)),x.r3.step a (λq=>q) (λq=>q) (λb q=>q.elim) (λb d=>ϒ (J b d)),
  ⟨by
   obtain⟨⟨xs,o,r⟩,_⟩:=x.o
   exact⟨xs,o,λi hi=>(r i hi).other λb d=>ϒ (d.elim (λq=>ϒ λn=>q (H b n)) ϔ)⟩,λb d q=>x.o.apart b d (λn=>q (H b n))⟩,x.ok⟩⟩
def RmX.laneNew (h:RmX T w0 w k vp vr s F) {p:Nat} (m:ql w w1) (O:zw (λb=>w.heap.size<=b/\b<w1.heap.size) w1 p l)
  (ad:jk w' k.ML (Value.int .i64) gj (qx k.LA x p)) (a:jt (λb=>b=k.ML) w1 w'):qI w0 w' {k with LA:=qx k.LA x p} {s with lanes:=qx s.lanes x l} F/\qw F w w':=by
 obtain⟨M,U⟩:=h.all .lns;have I:=h.fresh;have af:=U.lt;have J:jt (λb=>T b= .lane x∨T b= .lns) w w':=(jt.of_more m).trans (a.mono λb d=>ϔ (by rw[d];exact M));have Y:w1.heap.size<=w'.heap.size:=a.size;obtain⟨y,z⟩:=h.own2 (t1:= .lane x) (t2:= .lns) (k':={k with LA:=qx k.LA x p}) (vp':=vp) (vr':=vr) (s':={s with lanes:=qx s.lanes x l}) ⟨η,η⟩ ⟨η,η⟩ J
  ⟨λai ah G H=>by
   simp only at G H;rw[xD] at G H;injection G with G
   injection H with H
   subst G H;refine(O.away a (λb d ac=>by rw[d] at ac;omega)).wide (λb d=>(jd I η b).2 (ϔ ⟨rfl,d.1,ϗ d.2 Y⟩)) (λb d=> ?_);rcases(jd I η b).1 d with q | q
   ·rcases V5 b w.heap.size with c | c
    ·exact ϗ c J.size
    ·rw[I b c] at q;cases q
   ·exact q.2.2,by simp only[xD];rfl⟩
  ⟨(jF I η η _).2 M,ad⟩
  (λu aa ab ag y=>by
   cases u<;>first | exact y | exact ϩ rfl ab | skip
   rename_i ae;have N:ae≠x:=λe=>aa (by rw[e])
   unfold RmK.Holds at y ⊢;simp only;rw[vF _ _ N,vF _ _ N]
   exact y)
 exact⟨⟨_,_,_,y⟩,z⟩
def RmX.strNew (h:RmX T w0 w k vp vr s F) {o:Og} {t:zu} {p d:Nat} (m:ql w w1) (ad:w.heap.size<=p/\p<w1.heap.size) (ab:w.heap.size<=d/\d<w1.heap.size) (N:p≠d)
  (blk:w1.heap[p]? =ϊ (.cells (gK d t) 176 (0,0))) (buf:xZ w1 d v t.buf) (ai:JOK t.buf) (aa:v.ownBlock=ϋ)
  (ah:jk w' k.MS kO gj (qx k.SA o p)) (a:jt (λb=>b=k.MS) w1 w'):qI w0 w' {k with SA:=qx k.SA o p} {s with strs:=qx s.strs o t} F/\qw F w w':=by
 obtain⟨Y,ac⟩:=h.all .sts;have M:=h.fresh;have ak:=ac.lt;have U:jt (λb=>T b= .str o∨T b= .sts) w w':=(jt.of_more m).trans (a.mono λb G=>ϔ (by rw[G];exact Y));have ae:w1.heap.size<=w'.heap.size:=a.size;have O: ∀b,w.heap.size<=b/\b<w1.heap.size->jZ T (.str o) w w' b= .str o:=λb G=>(jd M η b).2 (ϔ ⟨rfl,G.1,ϗ G.2 ae⟩)
 obtain⟨y,z⟩:=h.own2 (t1:= .str o) (t2:= .sts) (k':={k with SA:=qx k.SA o p}) (vp':=vp) (vr':=vr) (s':={s with strs:=qx s.strs o t}) ⟨η,η⟩ ⟨η,η⟩ U
  ⟨λam al I J=>by
   simp only at I J;rw[xD] at I J;injection I with I
   injection J with J
   subst I J;refine⟨d,v,a.blk blk τ,⟨a.blk buf.blk τ,buf.row.away a (λg H=>by rw[aa] at H;cases H)⟩,ai,λb G=> ?_,O _ ad,O _ ab,N,λg H=>by rw[aa] at H;cases H⟩;rcases(jd M η b).1 G with q | q
   ·rcases V5 b w.heap.size with c | c
    ·exact ϗ c U.size
    ·rw[M b c] at q;cases q
   ·exact q.2.2,by simp only[xD];rfl⟩
  ⟨(jF M η η _).2 Y,ah⟩
  (λu af ag O y=>by
   cases u<;>first | exact y | exact ϩ rfl ag | skip
   rename_i aj;have N:aj≠o:=λe=>af (by rw[e])
   unfold RmK.Holds at y ⊢;simp only;rw[vF _ _ N,vF _ _ N]
   exact y)
 exact⟨⟨_,_,_,y⟩,z⟩
def Pz {d:Int} (h: ¬(yI t x d).2=0):(yI t x d).1=t:=by
 unfold yI at h ⊢;split
 ·rename_i G;rw[ϐ G] at h;split
  ·rfl
  ·rename_i H;rw[ώ H] at h;exact ϩ rfl h
 ·rfl
def Hr (aE:qI w0 w k s F) (am:xY s.cfg=ό) (x d sq st:Int) (ap:U16 sq) (ao:U32 d):
  Calls prog 35 #[γ k.R,ι x,ω d,φ sq,ω st] w λe w'=> ∃k',k'.R=k.R/\e= .returned (ι (s.join x d sq st).2)/\qI w0 w' k' (s.join x d sq st).1 F/\qw F w w':=by
 obtain⟨T,vp,aK,h⟩:=aE;have aa:=κ h;have M:=κ (kF am);have aC:=β7 h.blk;have aI:=β11 h.blk;obtain⟨aD,ag⟩:=ν (s.closed);rw[ag] at aC;have ac:=κ ag;clear ag h am;cases aD with
 | true=>
  have N:Hid (s.join x d sq st=(s,7)):=κ (by unfold RmS.join;rw[ϐ ac.o]);rw[N.o]
  go_enter func35,ntmps35
  go_wp2;go_ret;exact⟨k,rfl,rfl,aa.o.at,qw.refl _ _⟩
 | false=>
  have Y:=κ (Ld aa.o.tab x d);obtain⟨ae,H⟩:=ν ((yI s.tab x d).2);obtain⟨aF,ab⟩:=ν ((yI s.tab x d).1);by_cases e0:ae=0
  ·subst e0;have N:Hid (s.join x d sq st=({s with tab:=aF,lanes:=qx s.lanes x (Vd s.cfg.room.toNat s.cfg.most d sq st)},0)):=κ (by unfold RmS.join;rw[ώ (by rw[ac.o];decide),ϐ H,ab]);rw[H,ab] at Y;rw[N.o];clear H ab;have az:=κ (λw'=>Iu s.cfg.room s.cfg.most d sq st s.cfg.room.toNat (by have:=M.o.1;omega) (by have:=M.o.1;omega) (by have:=M.o.1;omega) M.o.2.2.2.1 M.o.2.2.2.2 ap ao w');clear ap ao
   go_enter func35,ntmps35
   go_upto_region 6 with (go_at_call 87;(go_call Y.o as e w1 ⟨rfl,U,O⟩;have J:=κ (KK aa.o U O);clear U O))
   obtain⟨aG,aJ,aL,au⟩:=J.o.1;have G:=κ au;clear au;have ai: ¬k.R=k.ML:=λe=>by have q:=(G.o.all .room).1;rw[e,(G.o.all .lns).1] at q;cases q
   have ax: ∀y:qz (λb=>b=k.ML) w1,y.w'.cell? ⟨k.R,12,ϋ⟩=ϊ (.map (ϊ k.ML)):=λy=>qm (y.h.blk G.o.blk ai) 12 rfl
   have aw: ∀y:qz (λb=>b=k.ML) w1,y.w'.cell? ⟨k.R,1,ϋ⟩=ϊ (ι s.cfg.room):=λy=>qm (y.h.blk G.o.blk ai) 1 rfl
   have ay: ∀y:qz (λb=>b=k.ML) w1,y.w'.cell? ⟨k.R,6,ϋ⟩=ϊ (ι s.cfg.most):=λy=>qm (y.h.blk G.o.blk ai) 6 rfl
   refine QN (λb=>b=k.ML) w1 24 24 [19,23] ?_
   refine ND ?_
   (refine Ql ?_;intro K I)
   go_call az.o _ as e w5 ⟨L,rfl,ar,ah⟩;have ad:Hid (ql w1 w5):=κ ((ql.drewN w1 1).trans ah);have al:=κ (G.o.on (ql.drewN w1 1));have ak:=κ ah;have aA:=κ ar;clear ah ar;refine⟨_,rfl,qi (jt.of_more ad.o),I _ _ ?_⟩;clear I K
   iterate 3 (refine qE rfl rfl (qi (jt.of_more ad.o)) ?_;intro K I;go_big_quiet_op;go_big_quiet_on)
   clear ax aw ay;obtain⟨w9,aq,an,af,_⟩:=(al.o.lnm.more ak.o).update kE underlying90 x L;have aj:=κ (al.o.laneNew ak.o aA.o an af);have aB:=κ (G.o.at.stay (ql.drewN w1 1));unfold gj at aq;have av:Hid (jt (λb=>b=k.ML) w1 w9):=κ ((jt.of_more ad.o).trans af)
   (refine Ql ?_;intro K I)
   refine⟨qi av.o,I _ _ ?_⟩;clear I K an af aq;refine qA ?_;go_wp2;go_ret;exact⟨{k with LA:=qx k.LA x L},rfl,rfl,aj.o.1,J.o.2.trans (aB.o.trans aj.o.2)⟩
  ·have aH:(ae != 0)=ό:=by simp[e0]
   have N:Hid (s.join x d sq st=(s,ae)):=κ (by unfold RmS.join;rw[ώ (by rw[ac.o];decide),H,ώ e0]);rw[Pz (by rw[H];exact e0),H] at Y;rw[N.o];clear H ab e0
   go_enter func35,ntmps35
   go_wp2_with (go_at_call 87;(go_call Y.o as e w1 ⟨rfl,U,O⟩;have J:=κ (KK aa.o U O);clear U O))
   go_ret;exact⟨k,rfl,rfl,J.o.1,J.o.2⟩
def Hu (c:CfR) (p:Int) (m:List (Og×zu)):Nat->List (Og×zu)
 | 0=>m
 | i+1=>qx (Hu c p m i) (p,(i:Int)) (uc c)
def Bn {p s0 s1 s2:Int} (h: ¬(vA t p s0 s1 s2).2=0):(vA t p s0 s1 s2).1=t:=by
 unfold vA at h ⊢;split
 ·rename_i d;rw[ϐ d] at h;split
  ·rfl
  ·rename_i G;rw[ώ G] at h;split
   ·rfl
   ·rename_i H;rw[ώ H] at h;split
    ·rfl
    ·rename_i I;rw[ώ I] at h;exact ϩ rfl h
 ·rfl
def Mu (h:RmX T w0 w k vp vr s F) (b:jq w' k.tb k.ta k.tc k.td t) (a:jt (λx=>x=k.ta∨x=k.tc) w w'):qI w0 w' k {s with tab:=t} F/\qw F w w':=
 h.table b (a.mono λ_ e=>e.elim ϒ λq=>ϔ (ϒ q))
def V0 (bg:qI w0 w k s F) (aJ:xY s.cfg=ό) (p s0 s1 s2:Int):
  Calls prog 45 #[γ k.R,ι p,θ #[ω s0,ω s1,ω s2]] w λe w'=> ∃k',k'.R=k.R/\e= .returned (ι (s.publish p s0 s1 s2).2)/\qI w0 w' k' (s.publish p s0 s1 s2).1 F/\qw F w w':=by
 obtain⟨T,vp,bn,h⟩:=bg;obtain⟨W1,J⟩:=ν (w.alloc (.cells #[ω s0,ω s1,ω s2] 40));have aC:Hid (ql w W1):=κ (by rw[<-J];exact ql.alloc _ _);have aT:Hid (W1.heap[w.heap.size]? =ϊ (.cells #[ω s0,ω s1,ω s2] 40 (0,0))):=κ (by rw[<-J];exact qj w _);have d:=κ (h.on aC.o);have aE:=κ (h.at.stay aC.o);have ay:=κ (kF aJ);have be:=β7 d.o.blk;obtain⟨bf,ak⟩:=ν (s.closed);rw[ak] at be;have ac:=κ ak;clear ak aJ;cases bf with
 | true=>
  have G:Hid (s.publish p s0 s1 s2=(s,7)):=κ (by unfold RmS.publish;rw[ϐ ac.o]);rw[G.o];clear h
  go_enter func45,ntmps45
  go_upto_region 1 with fail
  (try rw[J])
  clear J;go_wp2;go_ret;exact⟨k,rfl,rfl,d.o.at,aE.o⟩
 | false=>
  have ae:=κ (Dw (d.o.tab.more (ql.drewN W1 1)) p s0 s1 s2);unfold kJ at ae;obtain⟨ai,am⟩:=ν ((vA s.tab p s0 s1 s2).2);obtain⟨aq,ao⟩:=ν ((vA s.tab p s0 s1 s2).1);rw[am,ao] at ae;have aR: ¬(k.R=k.ta∨k.R=k.tc):=by
   obtain⟨_,N,O,_⟩:=d.o.all .table;rintro(e | e)
   ·rw[<-e,(d.o.all .room).1] at N;cases N
   ·rw[<-e,(d.o.all .room).1] at O;cases O
  have aQ: ¬(w.heap.size=k.ta∨w.heap.size=k.tc):=by
   obtain⟨_,N,O,_⟩:=h.all .table;have aS:=h.fresh w.heap.size (ϕ _);rintro(e | e)
   ·rw[<-e,aS] at N;cases N
   ·rw[<-e,aS] at O;cases O
  have aW:=λ(x:qz (λb=>b=k.ta∨b=k.tc) W1)=>β11 (x.h.blk d.o.blk aR)
  have Y:=λ(x:qz (λb=>b=k.ta∨b=k.tc) W1)=>x.h.blk aT.o aQ
  have aZ:=λx=>β0 (Y x);have ba:=λx=>β1 (Y x);have bb:=λx=>β2 (Y x);clear Y
  clear h aR aQ;have ad:=κ am;have aA:=κ ao;clear am ao
  go_enter func45,ntmps45
  go_upto_region 1 with fail
  (try rw[J])
  clear J
  go_upto_region 3 with fail
  refine QN (λb=>b=k.ta∨b=k.tc) W1 8 8 [6] ?_
  refine Qs6 ?_
  (refine Ql ?_;intro K H)
  (with_reducible refine ae.o.mono ?_)
  rintro e w2 ⟨rfl,aG,ah⟩;have au:Hid (jt (λb=>b=k.ta∨b=k.tc) W1 w2):=κ (((jt.refl _ W1).drewN 1).trans ah);have ab:=κ (Mu (d.o.on (ql.drewN W1 1)) aG ah);have aF:=κ (aE.o.trans ((d.o.at.stay (ql.drewN W1 1)).trans ab.o.2));clear aG ah;refine⟨_,rfl,qi au.o,H _ _ ?_⟩;clear H K aW aZ ba bb
  iterate 1 (refine qE rfl rfl (qi au.o) ?_;intro K H;go_big_quiet_op;go_big_quiet_on)
  refine qA ?_;by_cases e0:ai=0
  ·subst e0;have G:Hid (s.publish p s0 s1 s2=({s with tab:=aq,strs:=Hu s.cfg p s.strs 3},0)):=κ (by unfold RmS.publish;rw[ώ (by rw[ac.o];decide),ϐ ad.o,aA.o];rfl);go_wp2
   go_loopw [25] (λap wr=> ∃i:Nat,i<=3/\ap= ι i/\(∃I:RmK,I.R=k.R/\qI w0 wr I {s with tab:=aq,strs:=Hu s.cfg p s.strs i} F)/\qw F w2 wr) (λap _=>3-(intOf ap).toNat)
   case atStart=>exact⟨0,τ,rfl,⟨k,rfl,ab.o.1⟩,qw.refl _ _⟩
   case round=>
    obtain⟨i,hi,rfl,⟨I,aK,aM⟩,aN⟩:=hrel;have az:=κ aM;have aB:=κ aN;have U:=κ aK;clear aM aN aK;by_cases hlt:i<3
    ·have bh:(i:Int)<3:=by omega
     obtain⟨bj,bm,bo,ar⟩:=az.o;have ag:=κ ar;have aj:=ar.blk;rw[U.o] at aj;have aw:=κ aj;have aX: ∀y:qt wr,y.w'.cell? ⟨k.R,2,ϋ⟩=ϊ (ι s.cfg.hold):=λy=>qm (qq y.h aw.o) 2 rfl
     have aY: ∀y:qt wr,y.w'.cell? ⟨k.R,3,ϋ⟩=ϊ (ι s.cfg.wait):=λy=>qm (qq y.h aw.o) 3 rfl
     have bc:=κ (YM s.cfg.hold s.cfg.wait (wr.drewN 1) ay.o.2.1);clear ar aj
     go_upto_region 9 with fail
     refine Qn wr 16 16 [10] ?_
     refine NC ?_
     (refine Ql ?_;intro K H)
     (with_reducible refine bc.o.mono ?_)
     rintro e w5 ⟨rfl,aH,aP,aO⟩;have aa:Hid (ql wr w5):=κ ((ql.drewN wr 1).trans aP);have aU:Hid (xZ w5 wr.heap.size (δ ϋ 0 0) (CU s.cfg.hold s.cfg.wait)):=κ aH;have af:Hid (wr.heap.size<w5.heap.size):=κ aO;clear aH aP aO;refine⟨_,rfl,qk aa.o,H _ _ ?_⟩;clear H K aX aY
     iterate 5 (refine qE rfl rfl (qk aa.o) ?_;intro K H;go_big_quiet_op;go_big_quiet_on)
     refine qA ?_;obtain⟨W6,M⟩:=ν (w5.alloc (.cells #[γ wr.heap.size,ύ,ι 0,ύ,ύ,ι 0,ι 0,ύ] 176));have aD:Hid (ql wr W6):=κ (by rw[<-M];exact aa.o.al _);have av:Hid (W6.heap[w5.heap.size]? =ϊ (.cells (gK wr.heap.size (uc s.cfg)) 176 (0,0))):=κ (by rw[<-M];exact qj w5 _);have aV:Hid (xZ W6 wr.heap.size (δ ϋ 0 0) (uc s.cfg).buf):=κ (by rw[<-M];exact aU.o.on W4);obtain⟨w9,bi,aL,aI,_⟩:=(ag.o.stm.more aD.o).update Yr underlying91 (p,(i:Int)) w5.heap.size;have ax:=κ (ag.o.strNew (t:=uc s.cfg) aD.o ⟨Q6 af.o,qn av.o⟩ ⟨ϕ _,ϗ af.o (by rw[<-M];exact W4.size)⟩ (λe=>by have:=af.o;omega) av.o aV.o (EJ ay.o.2.1) rfl aL aI);unfold gj kO at bi;have an:=ag.o.blk;rw[U.o] at an;have bl:w5.cell? ⟨k.R,13,ϋ⟩=ϊ (.map (ϊ I.MS)):=qm (qq aa.o an) 13 rfl;clear aL aI an
     go_wp2_with ((try rw[M]);fail)
     go_roundw
     case rel=>exact⟨i+1,τ,by go_num,⟨{I with SA:=qx I.SA (p,(i:Int)) w5.heap.size},U.o,ax.o.1⟩,aB.o.trans ax.o.2⟩
     case measure=>simp[intOf];omega
    ·obtain rfl:i=3:=by omega
     have bh: ¬((3:Nat):Int)<3:=by omega
     go_wp2;go_ret;exact⟨I,U.o,by rw[G.o];rfl,by rw[G.o];exact az.o,aF.o.trans aB.o⟩
  ·have bk:(ai != 0)=ό:=by simp[e0]
   have G:Hid (s.publish p s0 s1 s2=(s,ai)):=κ (by unfold RmS.publish;rw[ώ (by rw[ac.o];decide),ad.o,ώ e0]);have bd:Hid (aq=s.tab):=κ (by rw[<-aA.o];exact Bn (by rw[ad.o];exact e0));clear e0;go_wp2;go_ret;exact⟨k,rfl,by rw[G.o];rfl,by rw[G.o];have h:=ab.o.1;rw[bd.o] at h;exact h,aF.o⟩
def FE (h:RmX T w0 w k vp vr s F) (aU: ∀a∈s.pks,uj a.pk) (bx:s.pks.length<=1000000) (hi:i<s.pks.length) {a:AcS} (aE:s.pks[i]=a):
  Calls prog 15 #[γ k.R,ι (i:Int)] w λe w'=> ∃os ab aa ac ke U,e= .returned (.tuple #[(Γi a.o.1 a.o.2 a.num a.pk os ac ab ke aa U),ό])/\PkS w' (δ os a.pk.ss.length ac) (δ ab a.pk.ex.length ke) (δ aa a.pk.pl.length U) a.pk/\ql w w':=by
 obtain⟨g,cap,os,ab,aa,ac,ke,U,rfl,_,bw,aF,aG⟩:=h.pkRow hi;rw[aE] at aF aG;have am:=κ aG.pk;have ae:=κ (aU a (by rw[<-aE];exact ϛ hi));obtain⟨W2,ap⟩:=ν (w.alloc (.cells #[ι 0,ι 0,ι 0,ύ,υ 0,φ 0,ω 0,ω 0,(),ύ,φ 0,(),()] 65));have an:Hid (ql w W2):=κ (by rw[<-ap];exact ql.alloc _ _);have aI:Hid (W2.heap[w.heap.size]? =ϊ (.cells #[ι 0,ι 0,ι 0,ύ,υ 0,φ 0,ω 0,ω 0,(),ύ,φ 0,(),()] 65 (0,0))):=κ (by rw[<-ap];exact qj w _);have aZ:Hid (W2.rangeAt g (i* 13) (Γi a.o.1 a.o.2 a.num a.pk os ac ab ke aa U)):=κ (λj v bz=>by rw[an.o.cells _ _ bw];exact aF j v bz);have br:=β14 (qq an.o h.blk);have bF:(i:Int)<(s.pks.length:Int):=by omega
 clear aF aG aU aE h bx
 go_enter func15,ntmps15
 go_upto_region 1 with fail
 (try rw[ap])
 clear ap
 go_upto_region 4 with (refine wpList_load_mid rfl 65 (.tmp 24) rfl g (i* 13) rfl (Γi a.o.1 a.o.2 a.num a.pk os ac ab ke aa U) _ aZ.o underlying65 rfl ξ ?_)
 obtain⟨af,aq⟩:=ν (W2.alloc (.cells (Γi a.o.1 a.o.2 a.num a.pk os ac ab ke aa U) 65));have aQ:Hid (ql W2 af):=κ (by rw[<-aq];exact ql.alloc _ _);have av:Hid (af.heap[W2.heap.size]? =ϊ (.cells (Γi a.o.1 a.o.2 a.num a.pk os ac ab ke aa U) 65 (0,0))):=κ (by rw[<-aq];exact qj W2 _)
 (try rw[aq])
 clear aq br;have ad:Hid (w.heap.size<W2.heap.size):=κ (qn aI.o);have aD:=κ (am.o.keep (an.o.trans aQ.o));have az:Hid (W2.heap.size<af.heap.size):=κ (qn av.o);have bs:=β8 av.o;have aM:=κ (Ad _ a.pk.ss af aD.o.s ae.o.s)
 go_upto_region 5 with (go_at_call 49;(go_call aM.o as e w1 ⟨⟨v0,rfl,I⟩,H⟩;have bd:Hid (ql W2 w1):=κ (aQ.o.trans H);have bg:=κ (SlI.of_owns I (by have:=ae.o.s;omega));have ao:Hid (∀q,v0.ownBlock=ϊ q->W2.heap.size<q):=κ (λq d=>ϗ az.o (jS I d));have aA:=κ H;obtain⟨M,J,rfl⟩:=xl I;have aw:=κ (qq H av.o);have bC:=β8 aw.o;have bv:=yw aw.o 8;clear I H))
 obtain⟨ag,G⟩: ∃W',w1.setCell ⟨W2.heap.size,8,ϋ⟩ (δ M a.pk.ss.length J)=W':=⟨_,rfl⟩;have aK:Hid (ag.heap[W2.heap.size]? =ϊ (.cells (Γi a.o.1 a.o.2 a.num a.pk M J ab ke aa U) 65 (0,0))):=κ (by rw[<-G];exact qB (qp aw.o 8 (δ M a.pk.ss.length J)) rfl);have bb:Hid (ql W2 ag):=κ (by rw[<-G];exact bd.o.st (ϕ _) _);have ak:Hid (jt (λb=>b=W2.heap.size) w1 ag):=κ (by rw[<-G];exact jt.set (S:=λb=>b=W2.heap.size) (jt.refl _ _) (p:=⟨W2.heap.size,8,ϋ⟩) rfl _);have bj:=κ (bg.o.off2 (λ_ q d e=>by have:=ao.o q d;omega) ak.o);have aW:=κ ((aD.o.e.keep aA.o).off2 (λaj b ai e=>by have:=am.o.e.old aj ai;have:=ad.o;omega) ak.o);have aX:=κ ((aD.o.l.keep aA.o).off2 (λaj b ai e=>by have:=am.o.l.old aj ai;have:=ad.o;omega) ak.o);have aP:Hid (af.heap.size<=ag.heap.size):=κ (Ϙ (ϕ _) (Ϙ aA.o.size ak.o.size))
 (try rw[G])
 clear G bs bC bv aM;have bp:=β11 aK.o;have aN:=κ (wQ _ a.pk.ex ag aW.o ae.o.e)
 go_upto_region 6 with (go_at_call 50;(go_call aN.o as e w2 ⟨⟨bD,rfl,I⟩,H⟩;have be:Hid (ql W2 w2):=κ (bb.o.trans H);have bh:=κ (SlI.of_owns I (by have:=ae.o.e;omega));have aC:Hid (∀q,bD.ownBlock=ϊ q->W2.heap.size<q):=κ (λq d=>ϗ (ϗ az.o aP.o) (jS I d));have aB:=κ H;obtain⟨o2,N,rfl⟩:=xl I;have ax:=κ (qq H aK.o);have bA:=β11 ax.o;have bt:=yw ax.o 11;clear I H))
 obtain⟨ah,G⟩: ∃W',w2.setCell ⟨W2.heap.size,11,ϋ⟩ (δ o2 a.pk.ex.length N)=W':=⟨_,rfl⟩;have aL:Hid (ah.heap[W2.heap.size]? =ϊ (.cells (Γi a.o.1 a.o.2 a.num a.pk M J o2 N aa U) 65 (0,0))):=κ (by rw[<-G];exact qB (qp ax.o 11 (δ o2 a.pk.ex.length N)) rfl);have bc:Hid (ql W2 ah):=κ (by rw[<-G];exact be.o.st (ϕ _) _);have al:Hid (jt (λb=>b=W2.heap.size) w2 ah):=κ (by rw[<-G];exact jt.set (S:=λb=>b=W2.heap.size) (jt.refl _ _) (p:=⟨W2.heap.size,11,ϋ⟩) rfl _);have bm:=κ (bh.o.off2 (λ_ q d e=>by have:=aC.o q d;omega) al.o);have bk:=κ ((bj.o.keep aB.o).off2 (λ_ q d e=>by have:=ao.o q d;omega) al.o);have aY:=κ ((aX.o.keep aB.o).off2 (λaj b ai e=>by have:=am.o.l.old aj ai;have:=ad.o;omega) al.o);have ba:Hid (af.heap.size<=ah.heap.size):=κ (Ϙ aP.o (Ϙ aB.o.size al.o.size))
 (try rw[G])
 clear G bp bA bt aN;have bq:=β12 aL.o;have aO:=κ (wQ _ a.pk.pl ah aY.o ae.o.l)
 go_upto_region 7 with (go_at_call 50;(go_call aO.o as e aH ⟨⟨bE,rfl,I⟩,H⟩;have bf:Hid (ql W2 aH):=κ (bc.o.trans H);have bi:=κ (SlI.of_owns I (by have:=ae.o.l;omega));have aT:Hid (∀q,bE.ownBlock=ϊ q->W2.heap.size<q):=κ (λq d=>ϗ (ϗ az.o ba.o) (jS I d));have aS:=κ H;obtain⟨Y,O,rfl⟩:=xl I;have ay:=κ (qq H aL.o);have bB:=β12 ay.o;have bu:=yw ay.o 12;clear I H))
 obtain⟨W6,G⟩: ∃W',aH.setCell ⟨W2.heap.size,12,ϋ⟩ (δ Y a.pk.pl.length O)=W':=⟨_,rfl⟩;have aV:Hid (W6.heap[W2.heap.size]? =ϊ (.cells (Γi a.o.1 a.o.2 a.num a.pk M J o2 N Y O) 65 (0,0))):=κ (by rw[<-G];exact qB (qp ay.o 12 (δ Y a.pk.pl.length O)) rfl);have aR:Hid (ql W2 W6):=κ (by rw[<-G];exact bf.o.st (ϕ _) _);have ar:Hid (jt (λb=>b=W2.heap.size) aH W6):=κ (by rw[<-G];exact jt.set (S:=λb=>b=W2.heap.size) (jt.refl _ _) (p:=⟨W2.heap.size,12,ϋ⟩) rfl _);have bo:=κ (bi.o.off2 (λ_ q d e=>by have:=aT.o q d;omega) ar.o);have bl:=κ ((bk.o.keep aS.o).off2 (λ_ q d e=>by have:=ao.o q d;omega) ar.o);have bn:=κ ((bm.o.keep aS.o).off2 (λ_ q d e=>by have:=aC.o q d;omega) ar.o)
 (try rw[G])
 clear G bq bB bu aO;have aJ:Hid (W6.heap[w.heap.size]? =ϊ (.cells #[ι 0,ι 0,ι 0,ύ,υ 0,φ 0,ω 0,ω 0,(),ύ,φ 0,(),()] 65 (0,0))):=κ (qq aR.o aI.o)
 go_upto_region 7 with fail
 go_wp2_with (first | (refine wpList_load_row rfl 65 (.tmp 6) rfl W2.heap.size rfl _ (Γi a.o.1 a.o.2 a.num a.pk M J o2 N Y O) _ _ aV.o underlying65 rfl ξ ?_) | (refine zr rfl 65 (.tmp 4) (.tmp 44) rfl w.heap.size 65 _ (Γi a.o.1 a.o.2 a.num a.pk M J o2 N Y O) aJ.o rfl rfl ξ rfl W5 ?_))
 (refine bodyPost_ret (v:= .tuple #[(Γi a.o.1 a.o.2 a.num a.pk M J o2 N Y O),ό]) (yo results15 _ _ (w.heap.size) 65 (Γi a.o.1 a.o.2 a.num a.pk M J o2 N Y O) _ _ rfl rfl (jM aJ.o (Γi a.o.1 a.o.2 a.num a.pk M J o2 N Y O)) underlying65 rfl ξ) rfl ?_)
 have au:=jt.setRow W6 w.heap.size (Γi a.o.1 a.o.2 a.num a.pk M J o2 N Y O);refine⟨_,_,_,_,_,_,rfl,⟨bl.o.off2 (λ_ q d e=>by have:=ao.o q d;have:=ad.o;omega) au,bn.o.off2 (λ_ q d e=>by have:=aC.o q d;have:=ad.o;omega) au,bo.o.off2 (λ_ q d e=>by have:=aT.o q d;have:=ad.o;omega) au⟩,(an.o.trans aR.o).row (ϕ _) _⟩
def RDo (an:qI w0 w k s F) (ak:qV n s) (ao:n<=1000) (a:A22) (al:Option Addr) (aj:Nat) (ap:SlI .u8 w (δ al a.b.length aj) a.b) (O:Byt a.b) (aa:a.b.length<=400) (Y:U16 a.seq) (U:U32 a.own):
  Calls prog 12 #[γ k.R,θ #[ι a.act,ι a.sub,ι a.pub,ι a.layer,δ al a.b.length aj,ι a.w.1,ι a.w.2,a.acc,ω a.own,ω a.stamp,φ a.seq,ω a.s0,ω a.s1,ω a.s2]] w λe w'=>
   ∃k',k'.R=k.R/\e= .returned (.tuple #[ι (doR s a).2.1,μ (doR s a).2.2])/\qI w0 w' k' (doR s a).1 F/\qw F w w':=by
 obtain⟨act,sub,pub,layer,b,⟨w1,w2⟩,acc,own,stamp,seq,s0,s1,s2⟩:=a;simp only at ap O aa Y U ⊢;obtain⟨W1,G⟩:=ν (w.alloc (.cells #[ι act,ι sub,ι pub,ι layer,δ al b.length aj,ι w1,ι w2,acc,ω own,ω stamp,φ seq,ω s0,ω s1,ω s2] 42));have am:Hid (ql w W1):=κ (by rw[<-G];exact ql.alloc _ _);have N:Hid (W1.heap[w.heap.size]? =ϊ (.cells #[ι act,ι sub,ι pub,ι layer,δ al b.length aj,ι w1,ι w2,acc,ω own,ω stamp,φ seq,ω s0,ω s1,ω s2] 42 (0,0))):=κ (by rw[<-G];exact qj w _);have ab:=κ (an.on am.o);have ac:=κ (an.stay am.o);have ag:=κ ak;have aq:=κ (ap.keep am.o);have ae:=ak.num.lost;have ad:=ak.num.book;have au:=β0 N.o;have c1:=β1 N.o;have c2:=β2 N.o;have c3:=β3 N.o;have c4:=β4 N.o;have c5:=β5 N.o;have az:=β6 N.o;have aA:=β7 N.o;have aB:=β8 N.o;have aC:=β9 N.o;have av:=β10 N.o;have aw:=β11 N.o;have ax:=β12 N.o;have ay:=β13 N.o;have ar:act=0∨act=1∨act=2∨act=3∨act=4∨act=5∨act=6∨act=7∨act=8∨ ¬(0<=act/\act<=8):=by omega
 clear an ak ap;rcases ar with rfl | rfl | rfl | rfl | rfl | rfl | rfl | rfl | rfl | hno
 ·have J:=κ (Gf ab.o b _ aq.o O τ τ);have H:Hid (doR s ⟨0,sub,pub,layer,b,(w1,w2),acc,own,stamp,seq,s0,s1,s2⟩=((s.arrive b).1,(s.arrive b).2,ύ)):=κ rfl;rw[H.o];clear ae ad O aa Y U
  go_enter func12,ntmps12
  go_upto_region 1 with fail
  (try rw[G])
  clear G
  go_wp2_with (go_at_call 33;(go_call J.o as e af ⟨rfl,d,t2⟩;have I:=κ d;have M:=κ t2;clear d t2))
  go_ret2
  exact⟨k,rfl,rfl,I.o,ac.o.trans M.o⟩
 ·have J:=κ (Hq ab.o ag.o τ w1 w2 acc);have H:Hid (doR s ⟨1,sub,pub,layer,b,(w1,w2),acc,own,stamp,seq,s0,s1,s2⟩=((s.pick (w1,w2) acc).1,0,(s.pick (w1,w2) acc).2)):=κ rfl;rw[H.o];clear ae ad O aa Y U
  go_enter func12,ntmps12
  go_upto_region 1 with fail
  (try rw[G])
  clear G
  go_wp2_with (go_at_call 31;(go_call J.o as e af ⟨rfl,d,t2⟩;have I:=κ d;have M:=κ t2;clear d t2))
  go_ret2
  exact⟨k,rfl,rfl,I.o,ac.o.trans M.o⟩
 ·have J:=κ (Hn ab.o ag.o ao);have H:Hid (doR s ⟨2,sub,pub,layer,b,(w1,w2),acc,own,stamp,seq,s0,s1,s2⟩=(s.tick.1,s.tick.2,ύ)):=κ rfl;rw[H.o];clear ae ad O aa Y U
  go_enter func12,ntmps12
  go_upto_region 1 with fail
  (try rw[G])
  clear G
  go_wp2_with (go_at_call 34;(go_call J.o as e af ⟨rfl,d,t2⟩;have I:=κ d;have M:=κ t2;clear d t2))
  go_ret2
  exact⟨k,rfl,rfl,I.o,ac.o.trans M.o⟩
 ·have J:=κ (V0 ab.o ag.o.num.cfg pub s0 s1 s2);have H:Hid (doR s ⟨3,sub,pub,layer,b,(w1,w2),acc,own,stamp,seq,s0,s1,s2⟩=((s.publish pub s0 s1 s2).1,(s.publish pub s0 s1 s2).2,ύ)):=κ rfl;rw[H.o];clear ae ad O aa Y U
  go_enter func12,ntmps12
  go_upto_region 1 with fail
  (try rw[G])
  clear G
  go_wp2_with (go_at_call 45;(go_call J.o as e af ⟨ai,ah,rfl,d,t2⟩;have I:=κ d;have M:=κ t2;clear d t2))
  go_ret2
  exact⟨ai,ah,rfl,I.o,ac.o.trans M.o⟩
 ·have J:=κ (Hr ab.o ag.o.num.cfg sub own seq stamp Y U);have H:Hid (doR s ⟨4,sub,pub,layer,b,(w1,w2),acc,own,stamp,seq,s0,s1,s2⟩=((s.join sub own seq stamp).1,(s.join sub own seq stamp).2,ύ)):=κ rfl;rw[H.o];clear ae ad O aa Y U
  go_enter func12,ntmps12
  go_upto_region 1 with fail
  (try rw[G])
  clear G
  go_wp2_with (go_at_call 35;(go_call J.o as e af ⟨ai,ah,rfl,d,t2⟩;have I:=κ d;have M:=κ t2;clear d t2))
  go_ret2
  exact⟨ai,ah,rfl,I.o,ac.o.trans M.o⟩
 ·have J:=κ (XM ab.o (ag.o.subs ao) sub pub layer);have H:Hid (doR s ⟨5,sub,pub,layer,b,(w1,w2),acc,own,stamp,seq,s0,s1,s2⟩=((s.subscribe sub pub layer).1,(s.subscribe sub pub layer).2,ύ)):=κ rfl;rw[H.o];clear ae ad O aa Y U
  go_enter func12,ntmps12
  go_upto_region 1 with fail
  (try rw[G])
  clear G
  go_wp2_with (go_at_call 46;(go_call J.o as e af ⟨rfl,d,t2⟩;have I:=κ d;have M:=κ t2;clear d t2))
  go_ret2
  exact⟨k,rfl,rfl,I.o,ac.o.trans M.o⟩
 ·have J:=κ (Ms ab.o (ag.o.subs ao) sub layer);have H:Hid (doR s ⟨6,sub,pub,layer,b,(w1,w2),acc,own,stamp,seq,s0,s1,s2⟩=((s.want sub layer).1,(s.want sub layer).2,ύ)):=κ rfl;rw[H.o];clear ae ad O aa Y U
  go_enter func12,ntmps12
  go_upto_region 1 with fail
  (try rw[G])
  clear G
  go_wp2_with (go_at_call 36;(go_call J.o as e af ⟨rfl,d,t2⟩;have I:=κ d;have M:=κ t2;clear d t2))
  go_ret2
  exact⟨k,rfl,rfl,I.o,ac.o.trans M.o⟩
 ·have J:=κ (Lh ab.o τ sub);have H:Hid (doR s ⟨7,sub,pub,layer,b,(w1,w2),acc,own,stamp,seq,s0,s1,s2⟩=((s.leave sub).1,(s.leave sub).2,ύ)):=κ rfl;rw[H.o];clear ae ad O aa Y U
  go_enter func12,ntmps12
  go_upto_region 1 with fail
  (try rw[G])
  clear G
  go_wp2_with (go_at_call 47;(go_call J.o as e af ⟨ai,ah,rfl,d,t2⟩;have I:=κ d;have M:=κ t2;clear d t2))
  go_ret2
  exact⟨ai,ah,rfl,I.o,ac.o.trans M.o⟩
 ·have J:=κ (Ho ab.o);have H:Hid (doR s ⟨8,sub,pub,layer,b,(w1,w2),acc,own,stamp,seq,s0,s1,s2⟩=(s.shut.1,s.shut.2,ύ)):=κ rfl;rw[H.o];clear ae ad O aa Y U
  go_enter func12,ntmps12
  go_upto_region 1 with fail
  (try rw[G])
  clear G
  go_wp2_with (go_at_call 28;(go_call J.o as e af ⟨rfl,d,t2⟩;have I:=κ d;have M:=κ t2;clear d t2))
  go_ret2
  exact⟨k,rfl,rfl,I.o,ac.o.trans M.o⟩
 ·have H:Hid (doR s ⟨act,sub,pub,layer,b,(w1,w2),acc,own,stamp,seq,s0,s1,s2⟩=(s,0,ύ)):=κ (by
   unfold doR;simp only
   rw[ώ τ,ώ τ,ώ τ,ώ τ,ώ τ,ώ τ,ώ τ,ώ τ,ώ τ])
  rw[H.o];clear ae ad O aa Y U;have aD:(act==0)=ύ:=by simp;omega
  have aE:(act==1)=ύ:=by simp;omega
  have aF:(act==2)=ύ:=by simp;omega
  have aG:(act==3)=ύ:=by simp;omega
  have aH:(act==4)=ύ:=by simp;omega
  have aI:(act==5)=ύ:=by simp;omega
  have aJ:(act==6)=ύ:=by simp;omega
  have aK:(act==7)=ύ:=by simp;omega
  have aL:(act==8)=ύ:=by simp;omega
  clear hno
  go_enter func12,ntmps12
  go_upto_region 1 with fail
  (try rw[G])
  clear G;go_wp2
  go_ret2
  exact⟨k,rfl,rfl,ab.o,ac.o⟩
def uh:qL A22:=λw cs a=> ∃vb,cs=[.int .i64 a.act,.int .i64 a.sub,.int .i64 a.pub,.int .i64 a.layer,vb,.int .i64 a.w.1,.int .i64 a.w.2,.bool a.acc,.int .u32 a.own,.int .u32 a.stamp,.int .u16 a.seq,.int .u32 a.s0,.int .u32 a.s1,.int .u32 a.s2]/\SlI .u8 w vb a.b/\(Byt a.b/\U32 a.own/\U16 a.seq/\ ∀v∈[a.s0,a.s1,a.s2],0<=v/\v<=4294967295)
def kj:QQ uh:=λ_ _ _ _ m ⟨vb,d,G,H⟩=>⟨vb,d,G.keep m,H⟩
def LE:qL (Int×Int×Unit):=zf 1 (yW .i64) (zf 1 (yW .i64) Gp)
def Sx:jC prog 37 LE:=
 jC.struct underlying37 ξ (jH.cons rfl ξ (jC.int underlying3) (jH.cons rfl ξ (jC.int underlying3) jH.nil))
def LG:qL (Int×Int×Int×Int×List Int×(Int×Int×Unit)×Bool×Int×Int×Int×List Int×Unit):=
 zf 1 (yW .i64) (zf 1 (yW .i64) (zf 1 (yW .i64) (zf 1 (yW .i64) (zf 1 (RSl 1 (yW .u8)) (zf 2 LE (zf 1 DS (zf 1 (yW .u32) (zf 1 (yW .u32) (zf 1 (yW .u16) (zf 3 (LK 3 1 (yW .u32)) Gp))))))))))
def Cv {y:Int×Int×Int×Int×List Int×(Int×Int×Unit)×Bool×Int×Int×Int×List Int×Unit} (aj:cs.length=14) (h:LG w cs y): ∃z,uh w cs z:=by
 match cs,aj with
 | [k0,k1,k2,k3,k4,k5,k6,k7,k8,k9,k10,k11,k12,k13],_=>
  obtain⟨⟨N,_⟩,⟨O,_⟩,⟨Y,_⟩,⟨aa,_⟩,⟨ao,ab,an⟩,⟨⟨ac,_⟩,⟨ad,_⟩,_⟩,ae,⟨af,ai⟩,⟨ag,_⟩,⟨U,ah⟩,⟨_,I,J⟩,_⟩:=h;simp[DS] at N O Y aa ab ac ad ae af ag U;have d:=J 0 (by rw[I];omega);have G:=J 1 (by rw[I];omega);have H:=J 2 (by rw[I];omega);obtain⟨d,ak⟩:=d;obtain⟨G,al⟩:=G;obtain⟨H,p2⟩:=H;simp at d G H;obtain⟨am,ap⟩:=an.ints;refine⟨⟨_,_,_,_,_,(_,_),_,_,_,_,_,_,_⟩,ao,by rw[N,O,Y,aa,ab,ac,ad,ae,af,ag,U,d,G,H],am,Byt.of_wf ap,bounds_u32 ai,bounds_u16 ah,λv M=> ?_⟩;simp at M;rcases M with rfl | rfl | rfl
  ·exact bounds_u32 ak
  ·exact bounds_u32 al
  ·exact bounds_u32 p2
def Xg:jC prog 42 uh:=λG H w base O J I cs x d=>by
 obtain⟨y,N⟩:=(jC.struct (R:=LG) underlying42 ξ (jH.cons rfl ξ (jC.int underlying3) (jH.cons rfl ξ (jC.int underlying3) (jH.cons rfl ξ (jC.int underlying3) (jH.cons rfl ξ (jC.int underlying3) (jH.cons rfl ξ (jC.sl underlying35 ξ ζ (jC.int underlying5)) (jH.cons rfl ξ Sx (jH.cons rfl ξ (jC.bool underlying4) (jH.cons rfl ξ (jC.int underlying38) (jH.cons rfl ξ (jC.int underlying38) (jH.cons rfl ξ (jC.int underlying39) (jH.cons rfl ξ (jC.arr underlying40 ξ ξ (jC.int underlying38)) jH.nil)))))))))))) G H w base O J I cs x d;refine Cv ?_ N;obtain⟨_,_,_,_,M,_⟩:=DataW.trod_struct underlying42 d;rw[M]
 kernel_rfl
def Tv:qL CfR:=λ_ cs c=>cs=[.int .i64 c.room,.int .i64 c.hold,.int .i64 c.wait,.int .i64 c.space,.int .i64 c.retry,.int .i64 c.most]
def Hj:qL (Int×Int×Unit):=zf 1 (yW .i64) (zf 1 (yW .i64) Gp)
def Pi:jC prog 23 Hj:=
 jC.struct underlying23 ξ (jH.cons rfl ξ (jC.int underlying2) (jH.cons rfl ξ (jC.int underlying2) jH.nil))
def Xf:jC prog 25 Tv:=λU Y w base ad ab aa cs x G=>by
 obtain⟨y,ac⟩:=(jC.struct (R:=zf 1 (yW .i64) (zf 1 (yW .i64) (zf 1 (yW .i64) (zf 2 Hj (zf 1 (yW .i64) Gp))))) underlying25 ξ (jH.cons rfl ξ (jC.int underlying3) (jH.cons rfl ξ (jC.int underlying3) (jH.cons rfl ξ (jC.int underlying2) (jH.cons rfl ξ Pi (jH.cons rfl ξ (jC.int underlying3) jH.nil)))))) U Y w base ad ab aa cs x G;have d:cs.length=6:=by
  obtain⟨_,_,_,_,d,_⟩:=DataW.trod_struct underlying25 G;rw[d]
  kernel_rfl
 match cs,d with
 | [k0,k1,k2,k3,k4,k5],_=>
  obtain⟨⟨H,_⟩,⟨I,_⟩,⟨J,_⟩,⟨⟨M,_⟩,⟨N,_⟩,_⟩,⟨O,_⟩,_⟩:=ac;simp at H I J M N O;exact⟨⟨_,_,_,_,_,_⟩,by rw[H,I,J,M,N,O];rfl⟩
def jv:A22:=⟨0,0,0,0,[],(0,0),ύ,0,0,0,0,0,0⟩
def Yt {l:List A22} (h:SlP 14 uh w v l): ∃G cap,v= δ G l.length cap/\(l.length:Int)<=9223372036854775807/\ ∀i,i<l.length-> ∃b I H d,G=ϊ ⟨b,I,ϋ⟩/\b<w.heap.size/\
  (∀w',ql w w'->w'.rangeAt b (I+i* 14) [ι (l.getD i jv).act,ι (l.getD i jv).sub,ι (l.getD i jv).pub,ι (l.getD i jv).layer,δ H (l.getD i jv).b.length d,ι (l.getD i jv).w.1,ι (l.getD i jv).w.2,μ (l.getD i jv).acc,ω (l.getD i jv).own,ω (l.getD i jv).stamp,φ (l.getD i jv).seq,ω (l.getD i jv).s0,ω (l.getD i jv).s1,ω (l.getD i jv).s2])/\
  SlI .u8 w (δ H (l.getD i jv).b.length d) (l.getD i jv).b/\(Byt (l.getD i jv).b/\U32 (l.getD i jv).own/\U16 (l.getD i jv).seq/\ ∀v∈[(l.getD i jv).s0,(l.getD i jv).s1,(l.getD i jv).s2],0<=v/\v<=4294967295):=by
 obtain⟨G,cap,U,Y,aa,ae⟩:=id h;refine⟨G,cap,U,Y,λi hi=> ?_⟩;obtain⟨b,I,cs,e,J,af,ab,vb,rfl,N,ad⟩:=aa i hi;have O:l.getD i jv=l[i]:=by simp[hi]
 rw[O];obtain⟨H,d,rfl,_⟩:=id N;refine⟨b,I,H,d,e,J,λw' m j v M=> ?_,N,ad⟩;have ac:j<14:=(Ϛ.1 M).1;rw[m.cells b _ J,ab j ac];exact M
def yk (l:List A22):Bool:=decide (120<l.length)||l.any λx=>decide (400<x.b.length)
def Xj {l:List A22} (h:yk l=ύ):l.length<=120/\ ∀i,i<l.length->(l.getD i jv).b.length<=400:=by
 unfold yk at h;rw[T8] at h;refine⟨by simpa using h.1,λi hi=> ?_⟩;have:=K2.1 h.2 l[i] (ϛ hi);have d:l.getD i jv=l[i]:=by simp[hi]
 rw[d]
 simpa using this
def uS (v:Value) (l:List A22) (w:World) (ae:SlP 14 uh w v l):Calls prog 10 #[v] w λe w'=>e= .returned (μ (yk l))/\ql w w':=by
 obtain⟨ar,cap,rfl,aq,I⟩:=Yt ae;clear ae;by_cases hlen:(l.length:Int)<=120
 ·go_enter func10,ntmps10
  go_wp2
  go_loopw [10] (λi wr=> ∃j:Nat,j<=l.length/\i= ι j/\(∀i,i<j-> ¬400<(l.getD i jv).b.length)/\ql w wr) (λi _=>l.length-(intOf i).toNat)
  case atStart=>exact⟨0,τ,rfl,λi hi=>by omega,ql.refl _⟩
  case round=>
   obtain⟨j,ap,rfl,H,d⟩:=hrel;by_cases hlt:j<l.length
   ·obtain⟨b,ad,ac,ab,rfl,ao,Y,_⟩:=I j hlt;have N:=κ (Y wr d);have an:(j:Int)<(l.length:Int):=by omega
    have af:=κ H;have G:=κ d
    have aj:Hid (400<(l.getD j jv).b.length->yk l=ό):=κ (λh=>by
     unfold yk;rw[R5]
     exact ϔ (P8.2 ⟨l.getD j jv,by simp[hlt],by simpa using h⟩))
    generalize J:l.getD j jv=x at *;have ai:=κ J;clear H Y d J I hlen;by_cases am:(400:Int)<(x.b.length:Int)
    ·have M:=κ (aj.o τ)
     go_wp2_with (refine wpList_load_mid rfl 42 (.tmp 12) rfl b (ad+j* 14) rfl [ι x.act,ι x.sub,ι x.pub,ι x.layer,δ ac x.b.length ab,ι x.w.1,ι x.w.2,x.acc,ω x.own,ω x.stamp,φ x.seq,ω x.s0,ω x.s1,ω x.s2] _ N.o underlying42 rfl ξ ?_)
     go_ret;exact⟨by rw[M.o];rfl,G.o.al _⟩
    ·have O: ¬400<x.b.length:=by omega
     have ag:Hid (∀i,i<j+1-> ¬400<(l.getD i jv).b.length):=κ (λi hi=>by
      by_cases e:i<j
      ·exact af.o i e
      ·obtain rfl:i=j:=by omega
       rw[ai.o];exact O)
     clear O
     go_wp2_with (refine wpList_load_mid rfl 42 (.tmp 12) rfl b (ad+j* 14) rfl [ι x.act,ι x.sub,ι x.pub,ι x.layer,δ ac x.b.length ab,ι x.w.1,ι x.w.2,x.acc,ω x.own,ω x.stamp,φ x.seq,ω x.s0,ω x.s1,ω x.s2] _ N.o underlying42 rfl ξ ?_)
     go_roundw
     case rel=>exact⟨j+1,τ,by go_num,ag.o,G.o.al _⟩
     case measure=>simp[intOf];omega
   ·obtain rfl:j=l.length:=by omega
    have an: ¬(l.length:Int)<(l.length:Int):=by omega
    have U:yk l=ύ:=by
     unfold yk;rw[T8];refine⟨by simp;omega,K2.2 λx J=> ?_⟩;obtain⟨i,hi,rfl⟩:=A4.1 J;have:=H i hi;have ak:l.getD i jv=l[i]:=by simp[hi]
     rw[ak] at this
     simpa using this
    have ah:=κ U;have G:=κ d;clear U H I d;go_wp2;go_ret;exact⟨by rw[ah.o];rfl,G.o⟩
 ·have aa:yk l=ό:=by
   unfold yk;rw[R5];exact ϒ (by simp;omega)
  have M:=κ aa;have am:(120:Int)<(l.length:Int):=by omega
  clear I aa hlen
  go_enter func10,ntmps10
  go_wp2;go_ret;exact⟨by rw[M.o];rfl,ql.refl _⟩
section
variable {P:Program} {C:World->Prop} {K:Act->World->Prop} {a:Act} {w:World} {d:Option Tmp} {t:TypeId} {ty:TypeId} {ps:String} {af:Array Edge}
def Xk (h:C (w.alloc (.map #[] 0))/\K (a.put d (.map (ϊ w.heap.size))) (w.alloc (.map #[] 0))):jn P C {dst:=d,op:= .makeMap t ϋ,type:=ty,pos:=ps,after:=af,guard:=ϋ} a w K:=by
 unfold jn execOp;simp only[N3,Sem.run_bind,run_makeMap,Result.andThen_ok,Sem.run_pure];exact h
end
section
variable {C:World->Prop} {K:Act->World->Prop} {a:Act} {w:World} {d:Option Tmp} {ty:TypeId} {ps:String} {af:Array Edge}
def Pr (h:Calls prog 43 #[] w λe w''=> ∃v,e= .returned v/\C w''/\K (a.put d v) w''):jn prog C {dst:=d,op:= .call {callee:= .value (.func 43),args:= #[],argTypes:= #[]},type:=ty,pos:=ps,after:=af,guard:=ϋ} a w K:=by
 unfold jn;go_simp;exact h
def UN (h:Calls prog 44 #[] w λe w''=> ∃v,e= .returned v/\C w''/\K (a.put d v) w''):jn prog C {dst:=d,op:= .call {callee:= .value (.func 44),args:= #[],argTypes:= #[]},type:=ty,pos:=ps,after:=af,guard:=ϋ} a w K:=by
 unfold jn;go_simp;exact h
end
def uP (a:Act) (i:Nat) (v u:Value):(a.put (ϊ i) v).put (ϊ i) u=a.put (ϊ i) u:=by
 simp[Act.put]
def zN (a:Act) {j:Nat} (v u:Value) (h:i≠j):(a.put (ϊ i) v).put (ϊ j) u=(a.put (ϊ j) u).put (ϊ i) v:=
 Act.put_comm a v u (λG d e=>h (by injection d with d;injection e with e;omega))
def kh (a:Act) (i:Nat) (h:i<a.tmps.size):a.put (ϊ i) (a.tmps.getD i undef)=a:=by
 obtain⟨t,d⟩:=a;have e:t.setIfInBounds i (t.getD i undef)=t:=by
  apply Array.ext
  ·simp
  ·intro j H G;rw[Array.getElem_setIfInBounds];split
   ·rename_i q;subst q;simp[G]
   ·rfl
 show Act.mk (t.setIfInBounds i (t.getD i undef)) d=⟨t,d⟩;rw[e]
structure Xs where
 x42:Value
 x43:Value
 x45:Value
 x47:Value
 x48:Value
 x49:Value
def pA (A:Act) (x:Xs):Act:=(((((A.put (ϊ 42) x.x42).put (ϊ 43) x.x43).put (ϊ 45) x.x45).put (ϊ 47) x.x47).put (ϊ 48) x.x48).put (ϊ 49) x.x49
def L8 (A:Act) (x:Xs) (v:Value):(pA A x).put (ϊ 42) v=pA A {x with x42:=v}:=by
 unfold pA;rw[zN (i:=49) (j:=42) _ x.x49 v ζ,zN (i:=48) (j:=42) _ x.x48 v ζ,zN (i:=47) (j:=42) _ x.x47 v ζ,zN (i:=45) (j:=42) _ x.x45 v ζ,zN (i:=43) (j:=42) _ x.x43 v ζ,uP]
def LZ (A:Act) (x:Xs) (v:Value):(pA A x).put (ϊ 43) v=pA A {x with x43:=v}:=by
 unfold pA;rw[zN (i:=49) (j:=43) _ x.x49 v ζ,zN (i:=48) (j:=43) _ x.x48 v ζ,zN (i:=47) (j:=43) _ x.x47 v ζ,zN (i:=45) (j:=43) _ x.x45 v ζ,uP]
def LY (A:Act) (x:Xs) (v:Value):(pA A x).put (ϊ 45) v=pA A {x with x45:=v}:=by
 unfold pA;rw[zN (i:=49) (j:=45) _ x.x49 v ζ,zN (i:=48) (j:=45) _ x.x48 v ζ,zN (i:=47) (j:=45) _ x.x47 v ζ,uP]
def LW (A:Act) (x:Xs) (v:Value):(pA A x).put (ϊ 47) v=pA A {x with x47:=v}:=by
 unfold pA;rw[zN (i:=49) (j:=47) _ x.x49 v ζ,zN (i:=48) (j:=47) _ x.x48 v ζ,uP]
def LV (A:Act) (x:Xs) (v:Value):(pA A x).put (ϊ 48) v=pA A {x with x48:=v}:=by
 unfold pA;rw[zN (i:=49) (j:=48) _ x.x49 v ζ,uP]
def LU (A:Act) (x:Xs) (v:Value):(pA A x).put (ϊ 49) v=pA A {x with x49:=v}:=by
 unfold pA;rw[uP]
def Bu (A:Act) (x:Xs) (h:50<=A.tmps.size):(pA A x).eval (.tmp 42)=x.x42:=by
 unfold pA;simp[Act.put,Act.eval,N4,(by omega:42<A.tmps.size)]
structure Yk (wB:World) (d0 d3 d5 d6 d7:Bool) (x:Xs) (w:World) (T:Nat->Tg):Prop where
 more:ql wB w
 fresh: ∀b,T b≠ .no->wB.heap.size<=b/\b<w.heap.size
 bk:d0=ό-> ∃B b,x.x42= .pointer (ϊ ⟨B,0,ϋ⟩)/\x.x43= .agg #[.pointer (ϊ ⟨B,0,ϋ⟩)]/\T B= .book/\T b= .book/\jy w B b []
 rt:d3=ό-> ∃M,x.x45= .map (ϊ M)/\T M= .ret/\jk w M kO Value.bool []
 tb:d5=ό-> ∃t a b c,x.x47= .pointer (ϊ ⟨t,0,ϋ⟩)/\T t= .table/\T a= .table/\T b= .table/\T c= .table/\jq w t a b c ⟨[],[],[]⟩
 ls:d6=ό-> ∃M,x.x48= .map (ϊ M)/\T M= .lns/\jk w M (Value.int .i64) gj []
 ss:d7=ό-> ∃M,x.x49= .map (ϊ M)/\T M= .sts/\jk w M kO gj []
section
variable {wB w w':World} {d0 d3 d5 d6 d7:Bool} {x:Xs} {T:Nat->Tg}
def Yk.no (h:Yk wB d0 d3 d5 d6 d7 x w T): ∀b,w.heap.size<=b->T b= .no:=λb d=>by
 cases e:T b<;>first | rfl | (exfalso;have:=(h.fresh b (by rw[e];simp)).2;omega)
def Yk.grow (h:Yk wB d0 d3 d5 d6 d7 x w T) (m:ql w w') (t:Tg):Yk wB d0 d3 d5 d6 d7 x w' (jZ T t w w'):=by
 have O:=h.no;have k: ∀{b:Nat} {u:Tg},u≠ .no->T b=u->jZ T t w w' b=u:=λU J=>(jd O U _).2 (ϒ J)
 refine⟨h.more.trans m,λb J=> ?_,λe=> ?_,λe=> ?_,λe=> ?_,λe=> ?_,λe=> ?_⟩
 ·unfold jZ at J;split at J
  ·rename_i q;exact⟨Ϙ h.more.size q.1,q.2⟩
  ·have:=h.fresh b J;exact⟨this.1,ϗ this.2 m.size⟩
 ·obtain⟨B,b,d,G,H,M,N⟩:=h.bk e;exact⟨B,b,d,G,k η H,k η M,N.more m⟩
 ·obtain⟨I,d,G,H⟩:=h.rt e;exact⟨I,d,k η G,H.more m⟩
 ·obtain⟨t,a,b,c,d,G,H,M,N,Y⟩:=h.tb e;exact⟨t,a,b,c,d,k η G,k η H,k η M,k η N,Y.more m⟩
 ·obtain⟨I,d,G,H⟩:=h.ls e;exact⟨I,d,k η G,H.more m⟩
 ·obtain⟨I,d,G,H⟩:=h.ss e;exact⟨I,d,k η G,H.more m⟩
def yb (H: ∀b,w.heap.size<=b->T b= .no) {t:Tg} (I:t≠ .no) (d:w.heap.size<=b) (G:b<w'.heap.size):jZ T t w w' b=t:=(jd H I b).2 (ϔ ⟨rfl,d,G⟩)
end
def NM {o:Oper} {y:Nat->Option Bool} {p q:Prop} (h:Region.wanted o y=ό) (d:p):if Region.wanted o y then p else q:=by
 rw[ϐ h];exact d
def wy:Nat->Bool->Bool->Bool->Bool->Bool->Tr
 | 0,_,_,_,_,_=> .op 8 ύ (.op 9 ό (.op 10 ύ (.op 11 ύ .done)))
 | n+1,d0,d3,d5,d6,d7=> .br ((if d0 then [] else [0])++(if d3 then [] else [3])++(if d0&& !d5 then [5] else [])++(if d6 then [] else [6])++(if d7 then [] else [7]))
  (λk=>if k=0 then .op 1 ύ (wy n ό d3 d5 d6 d7) else if k=3 then wy n d0 ό d5 d6 d7 else if k=5 then wy n d0 d3 ό d6 d7 else if k=6 then wy n d0 d3 d5 ό d7 else wy n d0 d3 d5 d6 ό)
def JP (d0 d3 d5 d6 d7:Bool):Nat:=(if d0 then 0 else 1)+(if d3 then 0 else 1)+(if d5 then 0 else 1)+(if d6 then 0 else 1)+(if d7 then 0 else 1)
section
variable {l:List Oper} {T0:Nat} {Q:Act->World->Prop} {A:Act} {wB:World}
def It (ap:50<=A.tmps.size)
  (ad: ∃ty ps af,l[0]? =ϊ {dst:=ϊ 42,op:= .call {callee:= .value (.func 43),args:= #[],argTypes:= #[]},type:=ty,pos:=ps,after:=af,guard:=ϋ})
  (ae: ∃ty ps af,l[1]? =ϊ {dst:=ϊ 43,op:= .build 86 #[(0,.tmp 42)],type:=ty,pos:=ps,after:=af,guard:=ϋ})
  (ag: ∃ty ps af,l[3]? =ϊ {dst:=ϊ 45,op:= .makeMap 87 ϋ,type:=ty,pos:=ps,after:=af,guard:=ϋ})
  (ah: ∃ty ps af,l[5]? =ϊ {dst:=ϊ 47,op:= .call {callee:= .value (.func 44),args:= #[],argTypes:= #[]},type:=ty,pos:=ps,after:=af,guard:=ϋ})
  (ai: ∃ty ps af,l[6]? =ϊ {dst:=ϊ 48,op:= .makeMap 90 ϋ,type:=ty,pos:=ps,after:=af,guard:=ϋ})
  (aj: ∃ty ps af,l[7]? =ϊ {dst:=ϊ 49,op:= .makeMap 91 ϋ,type:=ty,pos:=ps,after:=af,guard:=ϋ})
  (ao: ∀x w T,Yk wB ό ό ό ό ό x w T->zk prog l.toArray T0 (λw'=> ∃y:qt wB,w'=y.w') Q (.op 8 ύ (.op 9 ό (.op 10 ύ (.op 11 ύ .done)))) (pA A x) w):
  ∀(n:Nat) (N H I J M:Bool) (x:Xs) (w:World) (T:Nat->Tg),n=JP N H I J M->Yk wB N H I J M x w T->zk prog l.toArray T0 (λw'=> ∃y:qt wB,w'=y.w') Q (wy n N H I J M) (pA A x) w:=by
 obtain⟨aG,aA,ar,ad⟩:=ad;obtain⟨aH,aB,au,ae⟩:=ae;obtain⟨aI,aC,av,ag⟩:=ag;obtain⟨aJ,aD,aw,ah⟩:=ah;obtain⟨aK,aE,ax,ai⟩:=ai;obtain⟨aL,aF,ay,aj⟩:=aj;intro n
 induction n with
 | zero=>
  intro N H I J M x w T Y O;have e:N=ό/\H=ό/\I=ό/\J=ό/\M=ό:=by
   cases N<;>cases H<;>cases I<;>cases J<;>cases M<;>simp[JP] at Y ⊢
  obtain⟨rfl,rfl,rfl,rfl,rfl⟩:=e;exact ao x w T O
 | succ n ih=>
  intro N H I J M x w T Y O;have U:=O.no;unfold wy;unfold zk;intro k G;simp only[ϡ] at G;rcases G with (((G | G) | G) | G) | G
  ·cases N with
   | true=>simp at G
   | false=>
    simp at G;subst G;simp only[A5,ad,ϥ,A0];refine NM rfl ?_;refine zm (D:=λw'=> ∃y:qt wB,w'=y.w') (λ_ h=>yF h) (Pr ?_);refine(Nv w).mono ?_;rintro e w' ⟨B,b,rfl,ak,al,aa,ab⟩;have d:=O.grow ab .book;refine⟨_,rfl,qk (O.more.trans ab), ?_⟩;rw[L8];show zk _ _ _ _ _ (.op 1 ύ (wy n ό H I J M)) _ _;refine qH ae rfl (qk (O.more.trans ab)) λK aq=> ?_
    refine⟨θ #[γ B],λw2 az=> ?_, ?_⟩
    ·unfold Oper.quietAt execOp;simp only[J3,Ϭ,D5];have am:=Bu A {x with x42:= γ B} ap;simp only at am;rw[am];go_simp
    ·refine aq _ ?_;rw[LZ];exact ih ό H I J M _ w' _ (by cases H<;>cases I<;>cases J<;>cases M<;>simp[JP] at Y ⊢ <;>omega)
      ⟨d.more,d.fresh,λ_=>⟨B,b,rfl,rfl,yb U η ak (qn aa.blk),yb U η al aa.map.lt,aa⟩,d.rt,d.tb,d.ls,d.ss⟩
  ·cases H with
   | true=>simp at G
   | false=>
    simp at G;subst G;simp only[A5,ag,ϥ];refine NM rfl ?_;have m:=ql.alloc w (.map #[] 0);have d:=O.grow m .ret;refine zm (D:=λw'=> ∃y:qt wB,w'=y.w') (λ_ h=>yF h) (Xk ⟨qk d.more, ?_⟩);rw[LY];exact ih N ό I J M _ _ _ (by cases N<;>cases I<;>cases J<;>cases M<;>simp[JP] at Y ⊢ <;>omega)
     ⟨d.more,d.fresh,d.bk,λ_=>⟨w.heap.size,rfl,yb U η (ϕ _) η,jk.made w _ _⟩,d.tb,d.ls,d.ss⟩
  ·cases N<;>cases I<;>simp at G
   subst G;simp only[A5,ah,ϥ];refine NM rfl ?_;refine zm (D:=λw'=> ∃y:qt wB,w'=y.w') (λ_ h=>yF h) (UN ?_);refine(Mv w).mono ?_;rintro e w' ⟨t,a,b,c,rfl,ak,al,aa,ab,ac,an⟩;have d:=O.grow an .table;refine⟨_,rfl,qk (O.more.trans an), ?_⟩;rw[LW];exact ih ό H ό J M _ w' _ (by cases H<;>cases J<;>cases M<;>simp[JP] at Y ⊢ <;>omega)
    ⟨d.more,d.fresh,d.bk,d.rt,λ_=>⟨t,a,b,c,rfl,yb U η ak (qn ac.blk),yb U η al ac.mo.lt,yb U η aa ac.ms.lt,yb U η ab ac.mu.lt,ac⟩,d.ls,d.ss⟩
  ·cases J with
   | true=>simp at G
   | false=>
    simp at G;subst G;simp only[A5,ai,ϥ];refine NM rfl ?_;have m:=ql.alloc w (.map #[] 0);have d:=O.grow m .lns;refine zm (D:=λw'=> ∃y:qt wB,w'=y.w') (λ_ h=>yF h) (Xk ⟨qk d.more, ?_⟩);rw[LV];exact ih N H I ό M _ _ _ (by cases N<;>cases H<;>cases I<;>cases M<;>simp[JP] at Y ⊢ <;>omega)
     ⟨d.more,d.fresh,d.bk,d.rt,d.tb,λ_=>⟨w.heap.size,rfl,yb U η (ϕ _) η,jk.made w _ _⟩,d.ss⟩
  ·cases M with
   | true=>simp at G
   | false=>
    simp at G;subst G;simp only[A5,aj,ϥ];refine NM rfl ?_;have m:=ql.alloc w (.map #[] 0);have d:=O.grow m .sts;refine zm (D:=λw'=> ∃y:qt wB,w'=y.w') (λ_ h=>yF h) (Xk ⟨qk d.more, ?_⟩);rw[LU];exact ih N H I J ό _ _ _ (by cases N<;>cases H<;>cases I<;>cases J<;>simp[JP] at Y ⊢ <;>omega)
     ⟨d.more,d.fresh,d.bk,d.rt,d.tb,d.ls,λ_=>⟨w.heap.size,rfl,yb U η (ϕ _) η,jk.made w _ _⟩⟩
def EB (A:Act) (h:50<=A.tmps.size): ∃x,pA A x=A:=by
 refine⟨⟨A.tmps.getD 42 undef,A.tmps.getD 43 undef,A.tmps.getD 45 undef,A.tmps.getD 47 undef,A.tmps.getD 48 undef,A.tmps.getD 49 undef⟩, ?_⟩;unfold pA;simp only;rw[kh A 42 τ,kh A 43 τ,kh A 45 τ,kh A 47 τ,kh A 48 τ,kh A 49 τ]
def Pn (d:50<=A.tmps.size)
  (H: ∃ty ps af,l[0]? =ϊ {dst:=ϊ 42,op:= .call {callee:= .value (.func 43),args:= #[],argTypes:= #[]},type:=ty,pos:=ps,after:=af,guard:=ϋ})
  (I: ∃ty ps af,l[1]? =ϊ {dst:=ϊ 43,op:= .build 86 #[(0,.tmp 42)],type:=ty,pos:=ps,after:=af,guard:=ϋ})
  (J: ∃ty ps af,l[3]? =ϊ {dst:=ϊ 45,op:= .makeMap 87 ϋ,type:=ty,pos:=ps,after:=af,guard:=ϋ})
  (M: ∃ty ps af,l[5]? =ϊ {dst:=ϊ 47,op:= .call {callee:= .value (.func 44),args:= #[],argTypes:= #[]},type:=ty,pos:=ps,after:=af,guard:=ϋ})
  (N: ∃ty ps af,l[6]? =ϊ {dst:=ϊ 48,op:= .makeMap 90 ϋ,type:=ty,pos:=ps,after:=af,guard:=ϋ})
  (O: ∃ty ps af,l[7]? =ϊ {dst:=ϊ 49,op:= .makeMap 91 ϋ,type:=ty,pos:=ps,after:=af,guard:=ϋ})
  (w:World) (m:ql wB w)
  (G: ∀x w T,Yk wB ό ό ό ό ό x w T->zk prog l.toArray T0 (λw'=> ∃y:qt wB,w'=y.w') Q (.op 8 ύ (.op 9 ό (.op 10 ύ (.op 11 ύ .done)))) (pA A x) w):
  zk prog l.toArray T0 (λw'=> ∃y:qt wB,w'=y.w') Q (wy 5 ύ ύ ύ ύ ύ) A w:=by
 obtain⟨x,e⟩:=EB A d;have:=It (Q:=Q) (T0:=T0) d H I J M N O G 5 ύ ύ ύ ύ ύ x w (λ_=> .no) rfl ⟨m,λb U=>ϩ rfl U,λe=>(by cases e),λe=>(by cases e),λe=>(by cases e),λe=>(by cases e),λe=>(by cases e)⟩;rw[e] at this;exact this
end
def Ba {I w8 w9:World} {c:CfR} {x:Xs} {RQ AQ:Nat} (ad:ql w I) (G:Yk I ό ό ό ό ό x w8 T) (aE:w.heap.size<=RQ/\RQ<I.heap.size) (aF:w.heap.size<=AQ/\AQ<I.heap.size)
  (d:zR I RQ AQ c.room.toNat 0 [] 0 0 0 0 (List.replicate c.room.toNat [δ ϋ 0 0])) (M:ql w8 w9) (aD:w8.heap.size<=R/\R<w9.heap.size)
  (aq: ∀B N Y O U,x.x43= θ #[γ B]->x.x45= .map (ϊ N)->x.x47= γ Y->x.x48= .map (ϊ O)->x.x49= .map (ϊ U)->w9.heap[R]? =ϊ (.cells #[γ B,ι c.room,ι c.hold,ι c.wait,ι c.space,ι c.retry,ι c.most,ύ,.map (ϊ N),ι 0,γ RQ,γ Y,.map (ϊ O),.map (ϊ U),(),(),ι 0,ι 0,ι 0,ι 0,ι 0] 95 (0,0))):
  ∃k,k.R=R/\qI w w9 k (ud c) []:=by
 obtain⟨B,b,aC,af,av,tb,ak⟩:=G.bk rfl;obtain⟨N,ag,aw,al⟩:=G.rt rfl;obtain⟨Y,az,aA,aB,ah,t1,t2,t3,t4,ao⟩:=G.tb rfl;obtain⟨O,ai,ax,am⟩:=G.ls rfl;obtain⟨U,aj,ay,an⟩:=G.ss rfl;have ar:=aq B N Y O U af ag ah ai aj;have aG:=G.more.size;have ap: ∀{q:Nat} {u:Tg},u≠ .no->T q=u->I.heap.size<=q/\q<w8.heap.size:=λac d=>G.fresh _ (by rw[d];exact ac)
 obtain⟨aa,J⟩: ∃aa:Nat->Tg,aa=λq=>if q=RQ∨q=AQ then Tg.queue else if q=R then Tg.room else T q:=⟨_,rfl⟩
 have H: ∀{q:Nat} {u:Tg},u≠ .no->T q=u->aa q=u:=λac d=>by
  have:=ap ac d;rw[J];simp only;rw[ώ τ,ώ τ];exact d
 have ae:ql I w9:=G.more.trans M;refine⟨⟨R,N,RQ,AQ,Y,az,aA,aB,B,b,O,U,[],[]⟩,rfl,aa,δ ϋ 0 0,δ ϋ 0 0,⟨λu=> ?_,λq d=> ?_,λq d=>(by cases d),ad.trans ae⟩⟩
 ·cases u with
  | no=>
   intro q d;rw[J];simp only;rw[ώ τ,ώ τ];cases e:T q<;>first | rfl | (exfalso;have:=(G.fresh q (by rw[e];simp)).2;omega)
  | junk=>trivial
  | data=>trivial
  | room=>
   refine⟨?_,ar⟩;rw[J];simp only;rw[ώ τ];simp
  | ret=>exact⟨H η aw,al.more M⟩
  | queue=>
   have au:=d.more ae;refine⟨by rw[J];simp,by rw[J];simp,0,[],0,0,0,0,_,au,trivial⟩
  | table=>exact⟨H η t1,H η t2,H η t3,H η t4,ao.more M⟩
  | book=>exact⟨H η av,H η tb,ak.more M⟩
  | lns=>exact⟨H η ax,am.more M⟩
  | sts=>exact⟨H η ay,an.more M⟩
  | pks=>exact⟨je.nil _ _ _ _ _ _,λg ab=>by cases ab⟩
  | reqs=>exact⟨je.nil _ _ _ _ _ _,λg ab=>by cases ab⟩
  | lane y=>exact⟨λp l h=>(by cases h),rfl⟩
  | str o=>exact⟨λp t h=>(by cases h),rfl⟩
 ·rw[J] at d;simp only at d;have:=ad.size;split at d
  ·rename_i e;rcases e with e | e<;>omega
  ·split at d
   ·omega
   ·have:=(G.fresh q d).1;omega
def Nt (c:CfR) (au:xY c=ό) (w:World):
  Calls prog 9 #[θ #[ι c.room,ι c.hold,ι c.wait,ι c.space,ι c.retry,ι c.most]] w λe w'=> ∃k,e= .returned (.tuple #[γ k.R,ι 0])/\qI w w' k (ud c) []/\ql w w':=by
 obtain⟨c1,c2,c3,c4⟩:=kF au;obtain⟨W1,M⟩:=ν (w.alloc (.cells #[ι c.room,ι c.hold,ι c.wait,ι c.space,ι c.retry,ι c.most] 25));have O:Hid (ql w W1):=κ (by rw[<-M];exact ql.alloc _ _);have d:Hid (W1.heap[w.heap.size]? =ϊ (.cells #[ι c.room,ι c.hold,ι c.wait,ι c.space,ι c.retry,ι c.most] 25 (0,0))):=κ (by rw[<-M];exact qj w _);have aK:=κ (ZK c.room c.room.toNat τ τ τ W1);have aI:=κ (λw'=>YM c.hold c.wait w' c2);have ae:=κ (λw'=>Qf c.space c.retry w');rw[ϭ c3] at ae;have aW:=β0 d.o;clear c1 c2 c3 au
 go_enter func9,ntmps9
 go_upto_region 1 with fail
 (try rw[M])
 clear M
 go_upto_region 9 with (first | (go_at_call 40;(go_call aK.o as e w2 ⟨rfl,aq,n2⟩;have ad:=κ aq;have aM:=κ n2;have aX:=β1 (qq n2 d.o);have aY:=β2 (qq n2 d.o);clear aq n2)) | (go_at_call 41;(go_call aI.o _ as e bf ⟨rfl,_,aa,_⟩;have U:=κ (aM.o.trans aa);have aN:=κ aa;have aZ:=β3 (qq U.o d.o);have ba:=β4 (qq U.o d.o);clear aa)) | (go_at_call 42;(go_call ae.o _ as e w4 ⟨rfl,ab⟩;have G:=κ (U.o.trans ab);have ag:=κ (aN.o.trans ab);have bb:=β5 (qq G.o d.o);clear ab)))
 have aB: ∀y:qt w4,y.w'.cell? ⟨w.heap.size,0,ϋ⟩=ϊ (ι c.room):=λy=>qm (qq (G.o.trans y.h) d.o) 0 rfl
 have aC: ∀y:qt w4,y.w'.cell? ⟨w.heap.size,1,ϋ⟩=ϊ (ι c.hold):=λy=>qm (qq (G.o.trans y.h) d.o) 1 rfl
 have aD: ∀y:qt w4,y.w'.cell? ⟨w.heap.size,2,ϋ⟩=ϊ (ι c.wait):=λy=>qm (qq (G.o.trans y.h) d.o) 2 rfl
 have aE: ∀y:qt w4,y.w'.cell? ⟨w.heap.size,3,ϋ⟩=ϊ (ι c.space):=λy=>qm (qq (G.o.trans y.h) d.o) 3 rfl
 have aF: ∀y:qt w4,y.w'.cell? ⟨w.heap.size,4,ϋ⟩=ϊ (ι c.retry):=λy=>qm (qq (G.o.trans y.h) d.o) 4 rfl
 have aG: ∀y:qt w4,y.w'.cell? ⟨w.heap.size,5,ϋ⟩=ϊ (ι c.most):=λy=>qm (qq (G.o.trans y.h) d.o) 5 rfl
 refine zB w4 12 (.op 2 ύ (.op 4 ύ (wy 5 ύ ύ ύ ύ ύ))) ξ ξ ?_
 iterate 2 (refine qH rfl rfl (qk ρ) ?_;intro K I;go_big_quiet_op;go_big_quiet_on)
 clear aB aC aD aE aF aG;refine Pn η ⟨_,_,_,rfl⟩ ⟨_,_,_,rfl⟩ ⟨_,_,_,rfl⟩ ⟨_,_,_,rfl⟩ ⟨_,_,_,rfl⟩ ⟨_,_,_,rfl⟩ _ (ql.drewN w4 1) ?_;intro x w8 T H;obtain⟨B,b,aj,ak,_⟩:=H.bk rfl;obtain⟨af,am,_⟩:=H.rt rfl;obtain⟨aA,bc,bd,be,an,_⟩:=H.tb rfl;obtain⟨ah,ao,_⟩:=H.ls rfl;obtain⟨ai,ap,_⟩:=H.ss rfl;have aH:=κ H;have J:=κ H.more;clear H;obtain⟨x42,x43,x45,x47,x48,x49⟩:=x;simp only at aj ak am an ao ap;subst aj ak am an ao ap;unfold pA;simp only[Act.put];go_simp;refine qH rfl rfl (qk J.o) ?_;intro K I
 go_big_quiet_op
 go_big_quiet_on
 (refine qO rfl rfl ?_;intro K I;unfold jn;go_simp)
 refine⟨qk (J.o.al _),I _ _ ?_⟩;clear I K;obtain⟨w9,N⟩:=ν (w8.alloc (.cells #[γ B,ι c.room,ι c.hold,ι c.wait,ι c.space,ι c.retry,ι c.most,ύ,.map (ϊ af),ι 0,γ (W1.heap.size+1),γ aA,.map (ϊ ah),.map (ϊ ai),(),(),ι 0,ι 0,ι 0,ι 0,ι 0] 95));have Y:Hid (ql w8 w9):=κ (by rw[<-N];exact ql.alloc _ _);have ac:Hid (w9.heap[w8.heap.size]? =ϊ (.cells #[γ B,ι c.room,ι c.hold,ι c.wait,ι c.space,ι c.retry,ι c.most,ύ,.map (ϊ af),ι 0,γ (W1.heap.size+1),γ aA,.map (ϊ ah),.map (ϊ ai),(),(),ι 0,ι 0,ι 0,ι 0,ι 0] 95 (0,0))):=κ (by rw[<-N];exact qj w8 _)
 (try rw[N])
 clear N
 iterate 2 (refine qH rfl rfl (qk (J.o.trans Y.o)) ?_;intro K I;go_big_quiet_op;go_big_quiet_on)
 refine zg ?_;have aP:=qn ad.o.ring;have aQ:=ag.o.size;have aR:=O.o.size
 obtain⟨aS,aO,ar⟩:=Ba (c:=c) (RQ:=W1.heap.size+1) (AQ:=W1.heap.size) (R:=w8.heap.size) (O.o.trans G.o) aH.o ⟨τ,τ⟩ ⟨τ,τ⟩ (ad.o.more ag.o) Y.o ⟨ϕ _,qn ac.o⟩ (λaT aV t' aU S' av aw ax ay az=>by
  simp at av aw ax ay az;subst av aw ax ay az
  exact ac.o)
 have aL:=κ ar;have aJ:=κ (O.o.trans (G.o.trans (J.o.trans Y.o)));clear ar aP aQ aR;go_wp2
 go_ret2
 exact⟨aS,by rw[aO];rfl,aL.o,aJ.o⟩
def YL (c:CfR) (N:xY c=ύ) (w:World):
  Calls prog 9 #[θ #[ι c.room,ι c.hold,ι c.wait,ι c.space,ι c.retry,ι c.most]] w λe w'=>e= .returned (.tuple #[π ϋ,ι 1])/\ql w w':=by
 obtain⟨W1,G⟩:=ν (w.alloc (.cells #[ι c.room,ι c.hold,ι c.wait,ι c.space,ι c.retry,ι c.most] 25));have ab:Hid (ql w W1):=κ (by rw[<-G];exact ql.alloc _ _);have d:Hid (W1.heap[w.heap.size]? =ϊ (.cells #[ι c.room,ι c.hold,ι c.wait,ι c.space,ι c.retry,ι c.most] 25 (0,0))):=κ (by rw[<-G];exact qj w _);have aj:=β0 d.o;by_cases hr:c.room<1∨8<c.room
 ·have J:=κ (BJ c.room hr W1);clear hr N
  go_enter func9,ntmps9
  go_upto_region 1 with fail
  (try rw[G])
  clear G
  go_wp2_with ((go_at_call 40;(go_call J.o as e w2 ⟨rfl,n2⟩;have H:=κ n2;clear n2)))
  go_ret2
  exact⟨rfl,ab.o.trans H.o⟩
 ·have J:=κ (ZK c.room c.room.toNat τ τ τ W1);by_cases hj:Ok c.hold c.wait
  ·have aa:=κ (λw'=>YM c.hold c.wait w' hj);have Y:=κ (λw'=>Qf c.space c.retry w');by_cases ha:1<=c.space/\c.space<=c.retry/\c.retry<=1000
   ·rw[ϭ ha] at Y;have ad:c.most<1∨10<c.most:=by
     simp[xY,hj,ha] at N;omega
    rcases ad with ad | ad
    all_goals
     clear hr N hj ha
     go_enter func9,ntmps9
     go_upto_region 1 with fail
     (try rw[G])
     clear G
     go_wp2_with (first | (go_at_call 40;(go_call J.o as e w2 ⟨rfl,M,n2⟩;have H:=κ n2;have ae:=β1 (qq n2 d.o);have af:=β2 (qq n2 d.o);clear M n2)) | (go_at_call 41;(go_call aa.o _ as e ag ⟨rfl,_,O,_⟩;have I:=κ (H.o.trans O);have ah:=β3 (qq I.o d.o);have ai:=β4 (qq I.o d.o);clear O)) | (go_at_call 42;(go_call Y.o _ as e w4 ⟨rfl,U⟩;have ac:=κ (I.o.trans U);have ak:=β5 (qq ac.o d.o);clear U)))
     go_ret2
     exact⟨rfl,ab.o.trans ac.o⟩
   ·rw[ϫ ha] at Y;clear hr N hj ha
    go_enter func9,ntmps9
    go_upto_region 1 with fail
    (try rw[G])
    clear G
    go_wp2_with (first | (go_at_call 40;(go_call J.o as e w2 ⟨rfl,M,n2⟩;have H:=κ n2;have ae:=β1 (qq n2 d.o);have af:=β2 (qq n2 d.o);clear M n2)) | (go_at_call 41;(go_call aa.o _ as e ag ⟨rfl,_,O,_⟩;have I:=κ (H.o.trans O);have ah:=β3 (qq I.o d.o);have ai:=β4 (qq I.o d.o);clear O)) | (go_at_call 42;(go_call Y.o _ as e w4 ⟨rfl,U⟩;have ac:=κ (I.o.trans U);clear U)))
    go_ret2
    exact⟨rfl,ab.o.trans ac.o⟩
  ·have aa:=κ (λw'=>Lq c.hold c.wait w' hj);clear hr N hj
   go_enter func9,ntmps9
   go_upto_region 1 with fail
   (try rw[G])
   clear G
   go_wp2_with (first | (go_at_call 40;(go_call J.o as e w2 ⟨rfl,M,n2⟩;have H:=κ n2;have ae:=β1 (qq n2 d.o);have af:=β2 (qq n2 d.o);clear M n2)) | (go_at_call 41;(go_call aa.o _ as e ag ⟨rfl,rfl⟩)))
   go_ret2
   exact⟨rfl,ab.o.trans H.o⟩
def RmR (w0 w:World) (R:Nat) (s:RmS) (F:List Nat):Prop:= ∃k:RmK,k.R=R/\qI w0 w k s F
section
variable {w0 w w':World} {R:Nat} {s s':RmS} {F F' Fn:List Nat} {n:Nat}
def RmR.on (h:RmR w0 w R s F) (m:ql w w'):RmR w0 w' R s F:=h.elim λk h=>⟨k,h.1,h.2.on m⟩
def RmR.sub (h:RmR w0 w R s F) (d: ∀b∈F',b∈F):RmR w0 w R s F':=h.elim λk h=>⟨k,h.1,h.2.sub d⟩
def RmR.adds (h:RmR w0 w R s F) (m:ql w w') (d: ∀b∈Fn,w.heap.size<=b/\b<w'.heap.size):RmR w0 w' R s (Fn++F):=h.elim λk h=>⟨k,h.1,h.2.adds m d⟩
def RmR.more (h:RmR w0 w R s F):ql w0 w:=h.elim λ_ h=>h.2.more
def RmR.stay (h:RmR w0 w R s F) (m:ql w w'):qw F w w':=h.elim λ_ h=>h.2.stay m
def RmR.lt (h:RmR w0 w R s F): ∀b∈F,b<w.heap.size:=λb d=>h.elim λ_ h=>(h.2.law b d).2
def RmR.tkeys (h:RmR w0 w R s F):(s.tab.u.map Prod.fst).Nodup:=by
 obtain⟨k,rfl,T,vp,d,h⟩:=h;exact h.tab.mu.keys
def JN (c:CfR) (d:xY c=ό) (w:World):
  Calls prog 9 #[θ #[ι c.room,ι c.hold,ι c.wait,ι c.space,ι c.retry,ι c.most]] w λe w'=> ∃R,e= .returned (.tuple #[γ R,ι 0])/\RmR w w' R (ud c) []/\ql w w':=
 (Nt c d w).mono λ_ _ h=>h.elim λk h=>⟨k.R,h.1,⟨k,rfl,h.2.1⟩,h.2.2⟩
def MU (h:RmR w0 w R s F) (G:xY s.cfg=ό) (p s0 s1 s2:Int) (H:s.publish p s0 s1 s2=(s',a)):
  Calls prog 45 #[γ R,ι p,θ #[ω s0,ω s1,ω s2]] w λe w'=>e= .returned (ι a)/\RmR w0 w' R s' F/\qw F w w':=by
 obtain⟨k,rfl,h⟩:=h;refine(V0 h G p s0 s1 s2).mono ?_;rintro e w' ⟨k',I,rfl,d,t⟩;rw[H] at d ⊢;exact⟨rfl,⟨k',I,d⟩,t⟩
def Me (h:RmR w0 w R s F) (H:xY s.cfg=ό) (x d sq st:Int) (N:U16 sq) (M:U32 d) (I:s.join x d sq st=(s',a)):
  Calls prog 35 #[γ R,ι x,ω d,φ sq,ω st] w λe w'=>e= .returned (ι a)/\RmR w0 w' R s' F/\qw F w w':=by
 obtain⟨k,rfl,h⟩:=h;refine(Hr h H x d sq st N M).mono ?_;rintro e w' ⟨k',J,rfl,G,t⟩;rw[I] at G ⊢;exact⟨rfl,⟨k',J,G⟩,t⟩
def LQ (h:RmR w0 w R s F) (H:qV n s) (I:n<=1000) (x p m:Int) (G:s.subscribe x p m=(s',a)):
  Calls prog 46 #[γ R,ι x,ι p,ι m] w λe w'=>e= .returned (ι a)/\RmR w0 w' R s' F/\qw F w w':=by
 obtain⟨k,rfl,h⟩:=h;refine(XM h (H.subs I) x p m).mono ?_;rintro e w' ⟨rfl,d,t⟩;rw[G] at d ⊢;exact⟨rfl,⟨k,rfl,d⟩,t⟩
def LC (h:RmR w0 w R s F) (b:List Int) (v:Value) (M:SlI .u8 w v b) (G:Byt b) (J:b.length<=1000000) (I:0<=s.cnt.lost/\s.cnt.lost<=1000000000) (H:s.arrive b=(s',a)):
  Calls prog 33 #[γ R,v] w λe w'=>e= .returned (ι a)/\RmR w0 w' R s' F/\qw F w w':=by
 obtain⟨k,rfl,h⟩:=h;refine(Gf h b v M G J I).mono ?_;rintro e w' ⟨rfl,d,t⟩;rw[H] at d ⊢;exact⟨rfl,⟨k,rfl,d⟩,t⟩
def qaw (h:n<=1000):n<=10000:=Ϙ h ζ
def F7 (h:RmR w0 w R s F) (H:qV n s) (I:n<=10000) (w1 w2:Int) (acc:Bool) {a:Bool} (G:s.pick (w1,w2) acc=(s',a)):
  Calls prog 31 #[γ R,θ #[ι w1,ι w2],acc] w λe w'=>e= .returned (μ a)/\RmR w0 w' R s' F/\qw F w w':=by
 obtain⟨k,rfl,h⟩:=h;refine(Hq h H I w1 w2 acc).mono ?_;rintro e w' ⟨rfl,d,t⟩;rw[G] at d ⊢;exact⟨rfl,⟨k,rfl,d⟩,t⟩
def Ha (h:RmR w0 w R s F) (x:Int) (d:s.ln x=l) {t:Bool} (G:(qh s.lanes x).isSome=t):Calls prog 24 #[γ R,ι x] w λe w'=>
  e= .returned (.tuple #[θ #[ι l.cur,ι l.tgt],θ #[ι l.A.length,ι l.B.length,ι l.C.length],l.gone,t])/\ql w w':=by
 obtain⟨k,rfl,T,vp,H,h⟩:=h;rw[<-d,<-G];exact MC h x
def Ly (h:RmR w0 w R s F) (G:qV n s) (H:n<=10000) {a:AcS} (d:s.pks[i]? =ϊ a):
  Calls prog 15 #[γ R,ι (i:Int)] w λe w'=> ∃os oe ol ks ke kl,e= .returned (.tuple #[(Γi a.o.1 a.o.2 a.num a.pk os ks oe ke ol kl),ό])/\PkS w' (δ os a.pk.ss.length ks) (δ oe a.pk.ex.length ke) (δ ol a.pk.pl.length kl) a.pk/\ql w w':=by
 obtain⟨k,rfl,T,vp,I,h⟩:=h;obtain⟨hi,e⟩:=Ϛ.1 d;exact FE h (λa d=>(G.num.pkok a d).2.1) (G.rd H).pks hi e
def MO (h:RmR w0 w R s F) (x:Int) (d:(s.ln x).W.length<=1000000):Calls prog 14 #[γ R,ι x] w λe w'=>(∃v,e= .returned v/\je 2 (ROn w.heap.size) (λb=>b<w.heap.size) w' w.heap.size 56 v (s.ln x).W)/\ql w w':=by
 obtain⟨k,rfl,T,vp,G,h⟩:=h;exact CA h x d
end
def SlI.addr {k:IntKind} {G:Option Addr} {cap:Nat} {l:List Int} (h:SlI k w (δ G n cap) l) (J:0<l.length): ∃b d,G=ϊ ⟨b,d,ϋ⟩/\b<w.heap.size/\n=l.length:=by
 obtain⟨N,M,e,_,H,_⟩:=h;injection e with e1 e2 e3
 subst e1 e2 e3;obtain⟨b,d,rfl,I,_⟩:=H 0 J;exact⟨b,d,rfl,I,rfl⟩
section
variable {w00 w0 w w':World} {R:Nat} {s:RmS} {F Fn:List Nat}
def RmR.based (h:RmR w0 w R s F) (m:ql w00 w0) (H: ∀b∈Fn,w00.heap.size<=b/\b<w0.heap.size):RmR w00 w R s (Fn++F):=by
 obtain⟨k,rfl,T,vp,M,h⟩:=h;refine⟨k,rfl,T,vp,M,h.all,λb H=>Ϙ m.size (h.ge b H),λb J=> ?_,m.trans h.more⟩;rcases ϡ.1 J with e | e
 ·obtain⟨d,G⟩:=H b e;refine⟨?_,d,ϗ G h.more.size⟩;refine P0 λc=> ?_
  have:=h.ge b c;omega
 ·obtain⟨d,G,I⟩:=h.law b e;exact⟨d,Ϙ m.size G,I⟩
def RmR.mut (h:RmR w0 w R s F) (a:jt (λb=>b∈F) w w'):RmR w0 w' R s F:=by
 obtain⟨k,rfl,T,vp,d,h⟩:=h;exact⟨k,rfl,T,vp,d,h.mut a⟩
def RmR.mutA (h:RmR w0 w R s F) (a:jt (λb=>b∈F) w w') (H: ∀b∈Fn,b∈F∨w.heap.size<=b/\b<w'.heap.size):RmR w0 w' R s (Fn++F):=by
 obtain⟨k,rfl,T,vp,I,h⟩:=h;have d:=h.mut a;refine⟨k,rfl,T,vp,I,d.all,d.ge,λb G=> ?_,d.more⟩;rcases ϡ.1 G with e | e
 ·rcases H b e with f | f
  ·exact d.law b f
  ·exact⟨h.fresh b f.1,Ϙ h.more.size f.1,f.2⟩
 ·exact d.law b e
end
structure V7 (w:World) (W B:Nat) (jo pu:Int->Int) (sf:Og->Option Int):Prop where
 ex: ∃cs L,w.heap[W]? =ϊ (.cells cs 49 (0,0))/\cs.size=91/\cs[90]? =ϊ (.map (ϊ B))/\(∀k:Nat,k<6->cs[k* 14+8]? =ϊ (.int .u32 (jo k))/\cs[84+k]? =ϊ (.int .i64 (pu k)))/\jk w B kO (Value.int .u32) L/\(∀o,qh L o=sf o)
 ne:W≠B
section
variable {w w':World} {W B:Nat} {jo pu:Int->Int} {sf:Og->Option Int}
def V7.away (h:V7 w W B jo pu sf) (m:jt S w w') (G: ¬S W) (H: ¬S B):V7 w' W B jo pu sf:=by
 obtain⟨⟨cs,L,a,b,c,d,e,f⟩,g⟩:=h;exact⟨⟨cs,L,by rw[m.block W (qn a) G];exact a,b,c,d,e.away m H,f⟩,g⟩
def V7.more (h:V7 w W B jo pu sf) (m:ql w w'):V7 w' W B jo pu sf:=h.away (jt.of_more (S:=λ_=>False) m) (λx=>x) (λx=>x)
def V7.pub (h:V7 w W B jo pu sf) (k:Nat) (G:k<6):w.cell? ⟨W,84+k,ϋ⟩=ϊ (ι (pu k))/\w.frozen? ⟨W,84+k,ϋ⟩=ύ:=by
 obtain⟨⟨cs,L,a,b,c,d,e,f⟩,g⟩:=h;exact⟨qm a _ (d k G).2,yw a _⟩
def V7.setPub (h:V7 w W B jo pu sf) (k:Nat) (J:k<6) (v:Int):V7 (w.setCell ⟨W,84+k,ϋ⟩ (ι v)) W B jo (λx=>if x=k then v else pu x) sf:=by
 obtain⟨⟨cs,L,a,b,c,d,e,f⟩,g⟩:=h;refine⟨⟨_,L,qp a (84+k) _, ?_, ?_,λj I=> ?_,e.away ((jt.refl (λb=>b=W) w).set rfl _) (λx=>g x.symm),f⟩,g⟩
 ·rw[Array.size_setIfInBounds];exact b
 ·rw[D0 τ];exact c
 ·obtain⟨G,H⟩:=d j I;refine⟨by rw[D0 τ];exact G, ?_⟩;by_cases q:j=k
  ·subst q;rw[ϐ rfl,N4,ϐ rfl,ϐ τ]
  ·rw[D0 τ,ώ τ];exact H
def Ta (cur d:List Value) (o i:Nat) (h:o+d.length<=cur.length):(xQ cur o d)[i]? =if i<o then cur[i]? else if i<o+d.length then d[i-o]? else cur[i]? :=by
 unfold xQ;have G:(cur.take o).length=o:=by rw[Ϡ];omega
 by_cases h1:i<o
 ·rw[ϐ h1,ϧ,ϻ τ,I9 h1]
 ·rw[ώ h1];by_cases h2:i<o+d.length
  ·rw[ϐ h2,ϻ (by rw[Ϗ];omega),Ϻ τ,G]
  ·rw[ώ h2,Ϻ (by rw[Ϗ];omega),Ϗ,G,D1]
   congr 1
   omega
def V7.join {cs:Array Value} {L:List (Og×Int)} (a:w.heap[W]? =ϊ (.cells cs 49 (0,0))) (b:cs.size=91) (c:cs[90]? =ϊ (.map (ϊ B))) (I: ∀k:Nat,k<6->cs[k* 14+8]? =ϊ (ω (jo k))/\cs[84+k]? =ϊ (ι (pu k)))
  (e:jk w B kO (Value.int .u32) L) (f: ∀o,qh L o=sf o) (g:W≠B) (k:Nat) (U:k<6) (d:List Value) (N:d.length=14) {o:Int} (O:d[8]? =ϊ (ω o)):
  V7 (w.setRow W (xQ cs.toList (k* 14) d).toArray) W B (λx=>if x=k then o else jo x) pu sf:=by
 have Y:cs.toList.length=91:=b;have G: ∀i:Nat,(xQ cs.toList (k* 14) d).toArray[i]? =if i<k* 14 then cs[i]? else if i<k* 14+14 then d[i-k* 14]? else cs[i]? :=λi=>by
  rw[A5,Ta _ _ _ _ τ,N,Array.getElem?_toList]
 refine⟨⟨_,L,jM a _, ?_, ?_,λj M=> ?_,e.away (jt.setRow w W _) (λx=>g x.symm),f⟩,g⟩
 ·show (xQ cs.toList (k* 14) d).length=91;unfold xQ;simp only[Ϗ,Ϡ,ϣ];omega
 ·rw[G,ώ τ,ώ τ];exact c
 ·obtain⟨H,J⟩:=I j M;refine⟨?_,by rw[G,ώ τ,ώ τ];exact J⟩;rw[G];by_cases q:j=k
  ·subst q;rw[ώ τ,ϐ τ,ϐ rfl,show j* 14+8-j* 14=8 by omega];exact O
  ·rw[ώ (show ¬(j:Int)=(k:Int) by omega)];split
   ·exact H
   ·rw[ώ τ];exact H
end
def Td (w:World):Calls prog 11 #[] w λe w'=> ∃W B,e= .returned (γ W)/\(w.heap.size<=W/\W<w'.heap.size)/\(w.heap.size<=B/\B<w'.heap.size)/\V7 w' W B (λ_=>0) (λ_=> -1) (λ_=>ϋ)/\ql w w':=by
 have Y:= @run_makeMap prog
 go_enter func11,ntmps11
 go_wp2
 go_loopw [6] (λi N=> ∃y:Nat,y<=6/\i= ι y/\V7 N (w.heap.size+1) w.heap.size (λ_=>0) (λk=>if k<y then -1 else 0) (λ_=>ϋ)/\ql w N) (λi _=>6-(intOf i).toNat)
 case atStart=>
  refine⟨0,τ,rfl,⟨⟨_,[],qC η,rfl,rfl,λk G=> ?_,(jk.made w _ _).more W4,λ_=>rfl⟩,τ⟩,W4.al _⟩;have:k=0∨k=1∨k=2∨k=3∨k=4∨k=5:=by omega
  rcases this with rfl | rfl | rfl | rfl | rfl | rfl<;>exact⟨rfl,rfl⟩
 case round=>
  obtain⟨y,aa,rfl,J,M⟩:=hrel;have d:=κ J;have H:=κ M;clear J M;by_cases hlt:y<6
  ·have U:(y:Int)<6:=by omega
   obtain⟨c,f⟩:=d.o.pub y hlt;go_wp2;go_roundw
   case rel=>
    refine⟨y+1,τ,by go_num, ?_,H.o.st η _⟩;have e:(λk:Int=>if k<((y+1:Nat):Int) then (-1:Int) else 0)=λx=>if x=(y:Int) then -1 else if x<(y:Int) then -1 else 0:=by
     funext k
     by_cases q:k=(y:Int)
     ·rw[ϐ q,ϐ τ]
     ·rw[ώ q];by_cases q2:k<(y:Int)
      ·rw[ϐ q2,ϐ τ]
      ·rw[ώ q2,ώ τ]
    rw[e];exact d.o.setPub y hlt (-1)
   case measure=>simp[intOf];omega
  ·obtain rfl:y=6:=by omega
   have U: ¬((6:Nat):Int)<6:=by omega
   go_wp2;go_ret;have O:w.heap.size+1<wr.heap.size:=by
    obtain⟨cs,L,a,_⟩:=d.o.ex;exact qn a
   refine⟨w.heap.size+1,rfl,⟨τ,O⟩,w.heap.size,⟨τ,τ⟩,⟨?_,τ⟩,H.o⟩;obtain⟨cs,L,a,b,c,I,e,f⟩:=d.o.ex;refine⟨cs,L,a,b,c,λk G=>⟨(I k G).1, ?_⟩,e,f⟩;rw[(I k G).2,ϐ τ]
def V7.congr {G pu':Int->Int} {sf':Og->Option Int} (h:V7 w W B jo G sf) (I: ∀k:Nat,k<6->pu' k=G k) (J: ∀o,sf' o=sf o):V7 w W B jo pu' sf':=by
 obtain⟨⟨cs,L,a,b,c,H,e,f⟩,g⟩:=h;exact⟨⟨cs,L,a,b,c,λk d=>by rw[I k d];exact H k d,e,λo=>(f o).trans (J o).symm⟩,g⟩
def V7.stay {d:Int->Int} (h:V7 w W B jo d sf) (t:qw F w w') (J:W∈F) (M:B∈F):V7 w' W B jo d sf:=by
 obtain⟨⟨cs,L,a,b,c,H,e,f⟩,g⟩:=h;obtain⟨⟨I,G,N,r⟩,O⟩:=e;exact⟨⟨cs,L,(t.2 W J).trans a,b,c,H,⟨⟨I,G,(t.2 B M).trans N,r⟩,O⟩,f⟩,g⟩
def RU (sf:Og->Option Int) (p:Int) (v:List Int):Nat->Og->Option Int
 | 0,o=>sf o
 | y+1,o=>if o=(p,(y:Int)) then ϊ (v.getD y 0) else RU sf p v y o
def OG (pu:Int->Int) (s:RmS) (y:Nat):Int->Int:=λx=>if 0<=x/\x<y/\(s.ln x).gone=ό then -1 else pu x
def RH (d:Int->Int) (s:RmS) (y:Nat):OG d s (y+1)=λx=>if x=(y:Int) then (if (s.ln (y:Int)).gone=ό then -1 else d x) else OG d s y x:=by
 funext x
 unfold OG;by_cases e:x=(y:Int)
 ·subst e;rw[ϐ rfl];by_cases g:(s.ln (y:Int)).gone=ό
  ·rw[ϐ g,ϐ ⟨τ,τ,g⟩]
  ·rw[ώ g,ώ (λc=>g c.2.2)]
 ·rw[ώ e];by_cases g:0<=x/\x<(y:Int)/\(s.ln x).gone=ό
  ·rw[ϐ g,ϐ ⟨g.1,τ,g.2.2⟩]
  ·rw[ώ g,ώ (λc=>g ⟨c.1,τ,c.2.2⟩)]
def Oi (pu:Int->Int) (a:A22) (e:Int):Int->Int:=λx=>if e=0/\a.act=5/\x=a.sub then a.pub else if e=0/\a.act=7/\x=a.sub then -1 else pu x
def Oc {g t:Nat} (h:w.heap[g]? =ϊ (.cells cs.toArray t (0,0))) (o n:Nat):w.rangeAt g o ((cs.drop o).take n):=λj v d=>by
 have:=xy h (o+j) v (by
  rw[B3] at d;split at d
  ·rwa [D1] at d
  ·cases d)
 rwa [D8] at this
def TX {H:World} (h:RmR H w R s F) (x:Int) {g:Bool} (G:(s.ln x).gone=g):Calls prog 24 #[γ R,ι x] w λe w'=>
  ∃c1 c2 a b c t,e= .returned (.tuple #[θ #[ι c1,ι c2],θ #[ι a,ι b,ι c],g,t])/\ql w w':=
 (Ha h x rfl rfl).mono λe w' d=>⟨_,_,_,_,_,_,by rw[<-G];exact d.1,d.2⟩
def TR {bi:World} {N:Int->Int} (h:RmR bi w R s F) (ba:W∈F) (aZ:B∈F) (bb:V7 w W B jo N sf) (x:A22) (Y:Option Addr) (U:Nat) (e:Int) (aK:e=0->4<=x.act->x.act<=7->0<=x.sub/\x.sub<6):
  Calls prog 13 #[γ W,γ R,θ #[ι x.act,ι x.sub,ι x.pub,ι x.layer,δ Y x.b.length U,ι x.w.1,ι x.w.2,x.acc,ω x.own,ω x.stamp,φ x.seq,ω x.s0,ω x.s1,ω x.s2],ι e] w λbu w'=>bu= .returned (.tuple #[])/\V7 w' W B (MR jo x e) (NY N x e s) (NX sf x e)/\RmR bi w' R s F/\jt (λb=>b=W∨b=B) w w':=by
 obtain⟨act,sub,pub,G,d,⟨H,I⟩,acc,own,st,sq,s0,s1,s2⟩:=x
 dsimp only at aK ⊢
 have bD:=h.lt W ba;have bC:=h.lt B aZ;have ar:=ql.alloc w (.cells #[ι act,ι sub,ι pub,ι G,δ Y d.length U,ι H,ι I,acc,ω own,ω st,φ sq,ω s0,ω s1,ω s2] 42);have aH:=qj w (.cells #[ι act,ι sub,ι pub,ι G,δ Y d.length U,ι H,ι I,acc,ω own,ω st,φ sq,ω s0,ω s1,ω s2] 42);obtain⟨w1,be⟩:=ν (w.alloc (.cells #[ι act,ι sub,ι pub,ι G,δ Y d.length U,ι H,ι I,acc,ω own,ω st,φ sq,ω s0,ω s1,ω s2] 42));rw[be] at ar aH;have bn:=κ (h.on ar);have ae:=κ (bb.more ar);have ac:=κ aH;have bt:=κ ar;have aS:=κ aK;clear h bb ar aH aK;have bA:=β0 ac.o;have bB:=β1 ac.o;have ay:=κ (show w.heap.size≠W/\w.heap.size≠B by omega)
 go_enter func13,ntmps13
 go_upto_region 1 with ((try rw[be]);fail)
 obtain⟨q,bc⟩:=ν (decide (e=0/\4<=act/\act<=7));have ad:=κ bc;clear bc
 go_cut [26] from 15 to 26 (λv aa=>v= μ q/\w1=aa)
 case first=>
  by_cases c0:e=0
  ·subst c0;by_cases c4:(4:Int)<=act
   ·by_cases az:act<=7
    ·go_wp2;go_meet;exact⟨by rw[<-ad.o];simp[c4,az],rfl⟩
    ·go_wp2;go_meet;exact⟨by rw[<-ad.o];simp[c4,az],rfl⟩
   ·go_wp2;go_meet;exact⟨by rw[<-ad.o];simp[show ¬(4:Int)<=act by omega],rfl⟩
  ·go_wp2;go_meet;exact⟨by rw[<-ad.o];simp[c0],rfl⟩
 case rest=>
 obtain⟨rfl,rfl⟩:=hcut
 go_upto_if 26 with fail
 go_cut [] from 27 to 55 (λaa=>V7 aa W B (MR jo ⟨act,sub,pub,G,d,(H,I),acc,own,st,sq,s0,s1,s2⟩ e) (Oi N ⟨act,sub,pub,G,d,(H,I),acc,own,st,sq,s0,s1,s2⟩ e) sf/\jt (λb=>b=W∨b=B) w1 aa)
 case first=>
  cases q
  case true=>
   obtain⟨rfl,c4,az⟩:=ϟ ad.o;obtain⟨bf,bx⟩:=aS.o rfl c4 az;obtain⟨k,aA⟩:=Γ bf;have aq:k<6:=by omega
   subst aA;have aU: ∀y:qt w1,y.w'.cell? ⟨w.heap.size,0,ϋ⟩=ϊ (ι act):=λy=>qm (qq y.h ac.o) 0 rfl
   have aV: ∀y:qt w1,y.w'.cell? ⟨w.heap.size,1,ϋ⟩=ϊ (ι (k:Int)):=λy=>qm (qq y.h ac.o) 1 rfl
   have bz: ∀y:qt w1,y.w'.cell? ⟨w.heap.size,2,ϋ⟩=ϊ (ι pub):=λy=>qm (qq y.h ac.o) 2 rfl
   clear bf bx;by_cases a4:act=4
   ·subst a4;obtain⟨⟨cs,L,aj,ak,am,au,av,aw⟩,an⟩:=ae.o;have aG:=κ aj;clear aj
    go_wp2_with fail
    refine Qn w1 7 8 [4,5,7] ?_
    refine Qq3 ?_
    refine jh rfl rfl (qk ρ) 42 (.tmp 6) rfl w.heap.size 0 rfl [ι 4,ι (k:Int),ι pub,ι G,δ Y d.length U,ι H,ι I,acc,ω own,ω st,φ sq,ω s0,ω s1,ω s2] _ (λw' bv=>by obtain⟨y,rfl⟩:=bv;exact xy (qq y.h ac.o)) underlying42 rfl ξ ?_;intro K J
    go_big_quiet_on
    (refine Ql ?_;intro K J)
    refine⟨qk ρ,J _ _ ?_⟩;clear J K
    (refine Ql ?_;intro K J)
    refine⟨qk ρ,J _ _ ?_⟩;clear J K
    refine Qq1 ?_
    refine zY rfl rfl ζ ?_;intro K J;refine zF 42 (.tmp 37) (.tmp 34) rfl W (k* 14) 49 cs [ι 4,ι (k:Int),ι pub,ι G,δ Y d.length U,ι H,ι I,acc,ω own,ω st,φ sq,ω s0,ω s1,ω s2] rfl rfl (qr aG.o 1) (by simp[ak];omega) ξ W5 ⟨trivial,J _ _ ?_⟩;refine qA ?_;have ab:=V7.join (w:=w1.drewN 1) (qr aG.o 1) ak am au (av.more (ql.drewN w1 1)) aw an k aq [ι 4,ι (k:Int),ι pub,ι G,δ Y d.length U,ι H,ι I,acc,ω own,ω st,φ sq,ω s0,ω s1,ω s2] rfl rfl;have M:=κ ab;have bk:Hid (jt (λb=>b=W∨b=B) w1 ((w1.drewN 1).setRow W (xQ cs.toList (k* 14) [ι 4,ι (k:Int),ι pub,ι G,δ Y d.length U,ι H,ι I,acc,ω own,ω st,φ sq,ω s0,ω s1,ω s2]).toArray)):=κ ((jt.of_more (ql.drewN w1 1)).trans ((jt.setRow _ _ _).mono λb ao=>ϒ ao));clear ab;generalize (w1.drewN 1).setRow W (xQ cs.toList (k* 14) [ι 4,ι (k:Int),ι pub,ι G,δ Y d.length U,ι H,ι I,acc,ω own,ω st,φ sq,ω s0,ω s1,ω s2]).toArray=W2 at *;clear ak am au av aw an aG
    go_wp2_with fail
    go_meet;exact⟨by delta MR Oi;simpa using M.o,bk.o⟩
   ·by_cases a5:act=5
    ·subst a5;have aC:=κ ((ae.o.more (ql.drewN w1 1)).pub k aq);have M:=κ ((ae.o.more (ql.drewN w1 1)).setPub k aq pub);clear a4
     go_wp2_with fail
     refine Qn w1 8 9 [5,6,8] ?_
     refine Qq5 ?_
     (refine Ql ?_;intro K J)
     refine⟨qk ρ,J _ _ ?_⟩;clear J K
     (refine Ql ?_;intro K J)
     refine⟨qk ρ,J _ _ ?_⟩;clear J K
     refine Qq1 ?_
     obtain⟨c,f⟩:=aC.o
     (refine Qe ?_;intro K J)
     refine J _ _ ?_;clear J K;refine qA ?_
     go_wp2_with fail
     go_meet;exact⟨by delta MR Oi;simpa using M.o,(jt.of_more (ql.drewN w1 1)).set (ϒ rfl) _⟩
    ·by_cases a7:act=7
     ·subst a7;have aC:=κ ((ae.o.more (ql.drewN w1 1)).pub k aq);have M:=κ ((ae.o.more (ql.drewN w1 1)).setPub k aq (-1));clear a4 a5
      go_wp2_with fail
      refine Qn w1 6 7 [3,4,6] ?_
      refine Qq3 ?_
      (refine Ql ?_;intro K J)
      refine⟨qk ρ,J _ _ ?_⟩;clear J K
      (refine Ql ?_;intro K J)
      refine⟨qk ρ,J _ _ ?_⟩;clear J K
      refine Qq1 ?_
      obtain⟨c,f⟩:=aC.o
      (refine Qe ?_;intro K J)
      refine J _ _ ?_;clear J K;refine qA ?_
      go_wp2_with fail
      go_meet;exact⟨by delta MR Oi;simpa using M.o,(jt.of_more (ql.drewN w1 1)).set (ϒ rfl) _⟩
     ·go_wp2_with fail
      go_meet;exact⟨by delta MR Oi;simpa [a4,a5,a7] using ae.o,jt.refl _ _⟩
  case false=>
   have ai: ¬(e=0/\4<=act/\act<=7):=C1 ad.o;have aX:MR jo ⟨act,sub,pub,G,d,(H,I),acc,own,st,sq,s0,s1,s2⟩ e=jo:=by
    funext y
    exact ώ (λc=>ai ⟨c.2.1,by have:act=4:=c.1;omega,by have:act=4:=c.1;omega⟩)
   have aY:Oi N ⟨act,sub,pub,G,d,(H,I),acc,own,st,sq,s0,s1,s2⟩ e=N:=by
    funext y
    exact(ώ (λc=>ai ⟨c.1,by have:act=5:=c.2.1;omega,by have:act=5:=c.2.1;omega⟩)).trans (ώ (λc=>ai ⟨c.1,by have:act=7:=c.2.1;omega,by have:act=7:=c.2.1;omega⟩))
   have M:=κ (show V7 w1 W B (MR jo ⟨act,sub,pub,G,d,(H,I),acc,own,st,sq,s0,s1,s2⟩ e) (Oi N ⟨act,sub,pub,G,d,(H,I),acc,own,st,sq,s0,s1,s2⟩ e) sf/\jt (λb=>b=W∨b=B) w1 w1 from by rw[aX,aY];exact⟨ae.o,jt.refl _ _⟩);clear ai aX aY
   go_wp2_with fail
   go_meet;exact M.o
 case rest=>
 obtain⟨ap,O⟩:=hcut;have aE:=κ ap;have aB:=κ O;clear ap O;obtain⟨bh,bd⟩: ∃q,decide (e=0/\act=3)=q:=⟨_,rfl⟩;have ag:=κ bd;clear bd ad aS;have ax:=κ (aB.o.blk ac.o (λc=>c.elim ay.o.1 ay.o.2));have bm:=β0 ax.o
 go_upto_region 9 with fail
 go_cut [62] from 56 to 62 (λv aa=>v= μ bh/\wc=aa)
 case first=>
  by_cases c0:e=0
  ·subst c0;by_cases c3:act=3
   ·subst c3;go_wp2;go_meet;exact⟨by rw[<-ag.o];rfl,rfl⟩
   ·go_wp2;go_meet;exact⟨by rw[<-ag.o];simp[c3],rfl⟩
  ·go_wp2;go_meet;exact⟨by rw[<-ag.o];simp[c0],rfl⟩
 case rest=>
 obtain⟨rfl,rfl⟩:=hcut
 go_upto_if 62 with fail
 go_cut [] from 63 to 78 (λaa=>V7 aa W B (MR jo ⟨act,sub,pub,G,d,(H,I),acc,own,st,sq,s0,s1,s2⟩ e) (Oi N ⟨act,sub,pub,G,d,(H,I),acc,own,st,sq,s0,s1,s2⟩ e) (NX sf ⟨act,sub,pub,G,d,(H,I),acc,own,st,sq,s0,s1,s2⟩ e)/\jt (λb=>b=W∨b=B) wc aa)
 case first=>
  cases bh
  case true=>
   obtain⟨rfl,rfl⟩:=ϟ ag.o
   go_wp2_with (refine wpList_load_mid rfl 40 (.tmp 63) rfl w.heap.size 11 rfl [ω s0,ω s1,ω s2] _ (Oc ax.o 11 3) underlying40 rfl ξ ?_)
   go_loopw [65] (λi wr=> ∃y:Nat,y<=3/\i= ι y/\V7 wr W B (MR jo ⟨3,sub,pub,G,d,(H,I),acc,own,st,sq,s0,s1,s2⟩ 0) (Oi N ⟨3,sub,pub,G,d,(H,I),acc,own,st,sq,s0,s1,s2⟩ 0) (RU sf pub [s0,s1,s2] y)/\jt (λb=>b=W∨b=B) wc wr) (λi _=>3-(intOf i).toNat)
   case atStart=>exact⟨0,τ,rfl,aE.o,jt.refl _ _⟩
   case round=>
    obtain⟨y,bw,rfl,ab,O⟩:=hrel;have M:=κ ab;have af:=κ O;clear ab O;by_cases hlt:y<3
    ·have aM:(y:Int)<3:=by omega
     have bE:=λw=>Hy s0 s1 s2 y hlt w
     have bq:Hid (RU sf pub [s0,s1,s2] (y+1)=λo=>if o=(pub,(y:Int)) then ϊ ([s0,s1,s2].getD y 0) else RU sf pub [s0,s1,s2] y o):=κ rfl;generalize [s0,s1,s2].getD y 0=v at *;obtain⟨⟨cs,L,aj,ak,am,au,av,aw⟩,an⟩:=M.o;have bl:=κ (af.o.blk ax.o (λc=>c.elim ay.o.1 ay.o.2));obtain⟨w9,aJ,ah,aL,_⟩:=(av.more (ql.drewN wr 1)).update Yr underlying47 (pub,(y:Int)) v;unfold kO at aJ;simp only at aJ;have aT:Hid (V7 w9 W B (MR jo ⟨3,sub,pub,G,d,(H,I),acc,own,st,sq,s0,s1,s2⟩ 0) (Oi N ⟨3,sub,pub,G,d,(H,I),acc,own,st,sq,s0,s1,s2⟩ 0) (RU sf pub [s0,s1,s2] (y+1))/\jt (λb=>b=W∨b=B) wr w9):=κ ⟨⟨⟨cs,_,aL.blk (qr aj 1) an,ak,am,au,ah,λo=>by rw[bq.o,qF,aw]⟩,an⟩,(jt.of_more (ql.drewN wr 1)).trans (aL.mono λb ao=>ϔ ao)⟩;have aU: ∀x:qt wr,x.w'.cell? ⟨W,90,ϋ⟩=ϊ (.map (ϊ B)):=λx=>qm (qq x.h aj) 90 am
     have aV:=λ(x:qt wr)=>β2 (qq x.h bl.o)
     clear ah aL aj ak am au av aw an
     go_wp2_with fail
     refine Qn wr 9 10 [9] ?_
     refine Qq9 ?_
     (refine Qe ?_;intro K J)
     refine J _ _ ?_;clear J K;refine qA ?_;clear aU aV aJ;go_wp2;go_roundw
     case rel=>exact⟨y+1,τ,by go_num,aT.o.1,af.o.trans aT.o.2⟩
     case measure=>simp[intOf];omega
    ·obtain rfl:y=3:=by omega
     have aM: ¬((3:Nat):Int)<3:=by omega
     have br:=κ (M.o.congr (sf':=NX sf ⟨3,sub,pub,G,d,(H,I),acc,own,st,sq,s0,s1,s2⟩ 0) (λ_ _=>rfl) (λo=>by simp[NX,RU]))
     go_wp2_with fail
     go_meet;exact⟨br.o,af.o⟩
  case false=>
   have ai: ¬(e=0/\act=3):=C1 ag.o;have M:=κ (aE.o.congr (sf':=NX sf ⟨act,sub,pub,G,d,(H,I),acc,own,st,sq,s0,s1,s2⟩ e) (λ_ _=>rfl) (λo=>ώ ai))
   go_wp2_with fail
   go_meet;exact⟨M.o,jt.refl _ _⟩
 case rest=>
  obtain⟨ap,O⟩:=hcut;have aP:=κ ap;have aN:=κ (aB.o.trans O);clear ap O;have bo:Hid (∀k:Nat,k<6->NY N ⟨act,sub,pub,G,d,(H,I),acc,own,st,sq,s0,s1,s2⟩ e s k=OG (Oi N ⟨act,sub,pub,G,d,(H,I),acc,own,st,sq,s0,s1,s2⟩ e) s 6 k):=κ λk aA=>by
   unfold NY OG Oi;by_cases g:(s.ln (k:Int)).gone=ό
   ·rw[ϐ g,ϐ ⟨τ,τ,g⟩]
   ·rw[ώ g];exact(ώ (λc=>g c.2.2)).symm
  go_wp2_with fail
  go_loopw [79] (λi wr=> ∃y:Nat,y<=6/\i= ι y/\V7 wr W B (MR jo ⟨act,sub,pub,G,d,(H,I),acc,own,st,sq,s0,s1,s2⟩ e) (OG (Oi N ⟨act,sub,pub,G,d,(H,I),acc,own,st,sq,s0,s1,s2⟩ e) s y) (NX sf ⟨act,sub,pub,G,d,(H,I),acc,own,st,sq,s0,s1,s2⟩ e)/\jt (λb=>b=W∨b=B) w1 wr) (λi _=>6-(intOf i).toNat)
  case atStart=>exact⟨0,τ,rfl,aP.o.congr (λk aA=>ώ τ) (λ_=>rfl),aN.o⟩
  case round=>
   clear aP aN aE aB ax bm ag;obtain⟨y,bw,rfl,ab,O⟩:=hrel;have M:=κ ab;have af:=κ O;have aR:=κ (bn.o.mut (O.mono λb ao=>ao.elim (λe=>e▸ba) λe=>e▸aZ));clear ab O;by_cases hlt:y<6
   ·have aM:(y:Int)<6:=by omega
    have aD:=κ (RH (Oi N ⟨act,sub,pub,G,d,(H,I),acc,own,st,sq,s0,s1,s2⟩ e) s y);obtain⟨g,aI⟩:=ν ((s.ln (y:Int)).gone);have aQ:=κ (TX aR.o (y:Int) aI);rw[aI] at aD;clear aI
    go_upto_region 19 with ((go_at_call 24;(go_call aQ.o as e bj ⟨c1,c2,a,b,c,t,rfl,bg⟩;have aW:=κ bg;clear bg)))
    have ah:=aW.o.trans ((ql.alloc bj (.cells #[ι c1,ι c2] 103)).al (.cells #[ι a,ι b,ι c] 104));generalize (bj.alloc (.cells #[ι c1,ι c2] 103)).alloc (.cells #[ι a,ι b,ι c] 104)=W8 at *;have aF:=κ (M.o.more ah);have aO:Hid (jt (λb=>b=W∨b=B) w1 W8):=κ (af.o.trans (jt.of_more ah));clear ah aW aQ;cases g with
    | false=>
     go_wp2;go_roundw
     case rel=>exact⟨y+1,τ,by go_num,by rw[aD.o];exact aF.o.congr (λk aA=>by by_cases e:(k:Int)=y<;>simp[e,OG]) (λ_=>rfl),aO.o⟩
     case measure=>simp[intOf];omega
    | true=>
     obtain⟨c,f⟩:=aF.o.pub y hlt;have bp:=κ (aF.o.setPub y hlt (-1));go_wp2;go_roundw
     case rel=>exact⟨y+1,τ,by go_num,by rw[aD.o];simpa using bp.o,aO.o.set (ϒ rfl) _⟩
     case measure=>simp[intOf];omega
   ·obtain rfl:y=6:=by omega
    have aM: ¬((6:Nat):Int)<6:=by omega
    have bs:=κ (M.o.congr (pu':=NY N ⟨act,sub,pub,G,d,(H,I),acc,own,st,sq,s0,s1,s2⟩ e s) bo.o (λ_=>rfl));go_wp2
    (refine bodyPost_end (v:= .tuple #[]) ?re1 rfl ?_;(case re1=>simp[results,results13,go_sem]))
    exact⟨rfl,bs.o,aR.o,(jt.of_more bt.o).trans af.o⟩
def Tp {a:A22} (N:Gm s) (h:(doR s a).2.1=0) (J:4<=a.act) (M:a.act<=7):0<=a.sub/\a.sub<6:=by
 have H:a.act=4∨a.act=5∨a.act=6∨a.act=7:=by omega
 by_cases hx:0<=a.sub/\a.sub<6
 ·exact hx
 ·exfalso;have G: ¬(1:Int)=0:=by decide
  rcases H with e | e | e | e
  ·have d:doR s a=((s.join a.sub a.own a.seq a.stamp).1,(s.join a.sub a.own a.seq a.stamp).2,ύ):=by unfold doR;simp[e]
   rw[d] at h;unfold RmS.join yI at h;simp only[ώ hx,ώ G] at h;split at h<;>simp at h
  ·have d:doR s a=((s.subscribe a.sub a.pub a.layer).1,(s.subscribe a.sub a.pub a.layer).2,ύ):=by unfold doR;simp[e]
   rw[d] at h;unfold RmS.subscribe vL at h;have I: ¬((0<=a.sub/\a.sub<6)/\(0<=a.pub/\a.pub<3)):=λc=>hx c.1
   simp only[ώ I,ώ G] at h;split at h
   ·simp at h
   ·split at h
    ·simp at h
    ·split at h<;>simp at h
  ·have d:doR s a=((s.want a.sub a.layer).1,(s.want a.sub a.layer).2,ύ):=by unfold doR;simp[e]
   rw[d] at h;unfold RmS.want at h;rw[ϐ (c:=(decide (0<=a.sub/\a.sub<6)&&jj a.layer)=ύ) (by simp[hx])] at h;split at h<;>simp at h
  ·have d:doR s a=((s.leave a.sub).1,(s.leave a.sub).2,ύ):=by unfold doR;simp[e]
   rw[d] at h;unfold RmS.leave zW at h;simp only[ώ hx,ώ G] at h;split at h<;>simp at h
def TT {I:World} (x:A22) (h:RmR I w R (doR s x).1 F) (N:W∈F) (M:B∈F) (O:V7 w W B jo (EF s) sf) (d:qV n s) (Y:(s.tab.u.map Prod.fst).Nodup) (U:qV (n+1) (doR s x).1) (H:Option Addr) (G:Nat):
  Calls prog 13 #[γ W,γ R,θ #[ι x.act,ι x.sub,ι x.pub,ι x.layer,δ H x.b.length G,ι x.w.1,ι x.w.2,x.acc,ω x.own,ω x.stamp,φ x.seq,ω x.s0,ω x.s1,ω x.s2],ι (doR s x).2.1] w λJ w'=>J= .returned (.tuple #[])/\V7 w' W B (MR jo x (doR s x).2.1) (EF (doR s x).1) (NX sf x (doR s x).2.1)/\RmR I w' R (doR s x).1 F/\jt (λb=>b=W∨b=B) w w':=by
 have e:=funext (Rk d Y x U);rw[<-e];exact TR h N M O x H G _ (λa b c=>Tp d.tb a b c)
def AN (n:Nat) (e:TypeId) (w:World) (b:Nat) (f:Nat->Int):Prop:= ∃cs,w.heap[b]? =ϊ (.cells cs e (0,0))/\cs.size=n/\ ∀k,k<n->cs[k]? =ϊ (.int .i64 (f k))
section
variable {n:Nat} {e:TypeId} {w w':World} {b:Nat} {f f':Nat->Int}
def AN.away (h:AN n e w b f) (m:jt S w w') (I: ¬S b):AN n e w' b f:=by
 obtain⟨cs,d,G,H⟩:=h;exact⟨cs,m.blk d I,G,H⟩
def AN.more (h:AN n e w b f) (m:ql w w'):AN n e w' b f:=h.away (jt.of_more (S:=λ_=>False) m) (λx=>x)
def AN.lt (h:AN n e w b f):b<w.heap.size:=by
 obtain⟨cs,d,_⟩:=h;exact qn d
def AN.get (h:AN n e w b f) (k:Nat) (H:k<n):w.cell? ⟨b,k,ϋ⟩=ϊ (ι (f k))/\w.frozen? ⟨b,k,ϋ⟩=ύ:=by
 obtain⟨cs,d,I,G⟩:=h;exact⟨qm d k (G k H),yw d k⟩
end
def Sl (h:qV n s) (x:Int):(s.ln x).W.length<=n:=by
 unfold RmS.ln;cases e:qh s.lanes x with
 | none=>exact Ψ _
 | some l=>exact h.num.wr x l e
def NW:Code->List Code
 | .loop c=> .loop c::NW c
 | .seq a b=>NW a++NW b
 | .block _ c=>NW c
 | .scope c=>NW c
 | .cond _ a b=>NW a++NW b
 | _=>[]
def V7.own {H:Int->Int} (h:V7 w W B jo H sf) (k:Nat) (G:k<6):w.cell? ⟨W,k* 14+8,ϋ⟩=ϊ (ω (jo k)):=by
 obtain⟨⟨cs,L,a,b,c,d,e,f⟩,g⟩:=h;exact qm a _ (d k G).1
def RX (w:World):(zeroValue 3).run prog w= .ok (ι 0) w:=by kernel_rfl
def RW (w:World):(zeroValue 2).run prog w= .ok (ι 0) w:=by kernel_rfl
def qav (L:List (Int×Int)) (k:Int) (h:qh L k=ϋ) (m:jk w b (Value.int .i64) (Value.int .i64) L):(Instr.lookup 52 (.map (ϊ b)) (ι k) ύ).run prog w= .ok (ι 0) w:=by
 have:=m.look kE underlying52 (RX w) k ύ;rw[h] at this;exact this
def qau (L:List (Og×Int)) (o:Og) (m:jk w b kO (Value.int .i64) L):(Instr.lookup 51 (.map (ϊ b)) (θ #[ι o.1,ι o.2]) ύ).run prog w= .ok (ι ((qh L o).getD 0)) w:=by
 have:=m.look Yr underlying51 (RW w) o ύ;unfold kO at this;rw[this];cases qh L o<;>rfl
noncomputable def strmIn:Code:=(NW (Tryz.f3.body.getD .skip)).getD 2 .skip
def SU {br bM I G base:Nat} {gi:Int->Int} {bL:Option Addr} {bs:Nat} (y:Nat) (pb:Int) (aG:Hid (Oa n s jo)) (ip:n<=130) (gh:y<6)
  (dU:Hid (∀k (h:k<(s.ln (y:Int)).W.length),0<=pb->(acP s.pks (s.ln (y:Int)).W[k].1).o.1=pb))
  (ak:Hid (RmR w1 w R s [G,I,br,bM,W,B])) (dY:Hid (V7 w W B jo gi sf)) (bR:Hid (jk w I kO (Value.int .i64) ([]:List (Og×Int)))) (bQ:Hid (jk w G (Value.int .i64) (Value.int .i64) ([]:List (Int×Int))))
  (ad:Hid (G≠I/\W≠G/\W≠I/\B≠G/\B≠I)) (ea:Hid (je 2 (ROn base) (λb=>b=G∨b=I) w base 56 (δ bL (s.ln (y:Int)).W.length bs) (s.ln (y:Int)).W))
  (co c1 c2 c3 c4 dg dy dz cp cq cr cv fr fs ft fu fv fx cw cx cy cz cA cB cC cD cE cF cG cH cI cJ cK cL cM cN cO cP cQ cR cS cT cU cV cW cX cY cZ da db dc dd de df dh di dj dk dl dm dn dp dq dr ds dt du dv dw dx fz fA fB fC fD fE fF fG fH fI fJ fK fL fM fN fO fP fQ fR fS fT ed ee ef eg eh ei ej ek el em en eo ep eq er es et eu ev ew ex ey ez eA eB eC eD eE eF eG eH eI eJ eK eL eM eN eO eP eQ eR eS eT eU eV eW eX eY eZ fa fb fc fd fe ff fg fh fi fj fk fl fm fn fo fp fq ct cu:Value) (Q:Exit->Act->World->Prop)
  (ga: ∀(hG hz hA hB hC hD hE hH hI hJ hK hL hM hN hO hP hQ hR hS hT hU hV hW hX hY hZ ia ib ic gj gl gm gn go gp gq gr gs gt gu gv gw gx gy gz gA gB gC gD gE gF gG gH gI gJ gK gL gM gN gO gP gQ gR gS gT gU gV gW gX gY gZ ha hb hc hd he hf hg hh hj hk hl hm hn ho hp hq hr hs ht hu hv hw hx hy:Value) (aj:World),RmR w1 aj R s [G,I,br,bM,W,B]->jt (λb=>b=G∨b=I) w aj->Q (.exit 4) ⟨List.toArray (co::c1::c2::c3::hG:: γ R::dg:: γ W::dy::dz::cp::cq::cr:: ι (y:Int):: ι pb:: .map (ϊ I):: .map (ϊ G)::cv::hz::hA::hB::hC::hD::hE::cw::cx::cy::cz::cA::cB::cC::cD::cE::cF::cG::cH::cI::cJ::cK::cL::cM::cN::cO::cP::cQ::cR::cS::cT::cU::cV::cW::cX::cY::cZ::da::db::dc::dd::de::df::dh::di::dj::dk::dl::dm::dn::dp::dq::dr::ds::dt::du::dv::dw::dx:: δ bL (s.ln (y:Int)).W.length bs:: ι ((s.ln (y:Int)).W.length:Int)::hH::hI::hJ::hK::hL::hM::hN::hO::hP::hQ::hR::hS::hT::hU::hV::hW::hX::hY::hZ::ia::ib::ic::gj::gl::gm::gn::go::gp::gq::gr::gs::gt::gu::gv::gw::gx::gy::gz::gA::gB::gC::gD::gE::gF::gG::gH::gI::gJ::gK::gL::gM::gN::gO::gP::gQ::gR::gS::gT::gU::gV::gW::gX::gY::gZ::ha::hb::hc::hd::he::hf::hg::hh::hj::hk::hl::hm::hn::ho::hp::hq::hr::hs::ht::hu::hv::hw::hx::hy::ct::cu::[]),[]⟩ aj):Code.wp prog strmIn Q ⟨List.toArray (co::c1::c2::c3::c4:: γ R::dg:: γ W::dy::dz::cp::cq::cr:: ι (y:Int):: ι pb:: .map (ϊ I):: .map (ϊ G)::cv::fr::fs::ft::fu::fv::fx::cw::cx::cy::cz::cA::cB::cC::cD::cE::cF::cG::cH::cI::cJ::cK::cL::cM::cN::cO::cP::cQ::cR::cS::cT::cU::cV::cW::cX::cY::cZ::da::db::dc::dd::de::df::dh::di::dj::dk::dl::dm::dn::dp::dq::dr::ds::dt::du::dv::dw::dx:: δ bL (s.ln (y:Int)).W.length bs:: ι ((s.ln (y:Int)).W.length:Int):: ι 0::fz::fA::fB::fC::fD::fE::fF::fG::fH::fI::fJ::fK::fL::fM::fN::fO::fP::fQ::fR::fS::fT::ed::ee::ef::eg::eh::ei::ej::ek::el::em::en::eo::ep::eq::er::es::et::eu::ev::ew::ex::ey::ez::eA::eB::eC::eD::eE::eF::eG::eH::eI::eJ::eK::eL::eM::eN::eO::eP::eQ::eR::eS::eT::eU::eV::eW::eX::eY::eZ::fa::fb::fc::fd::fe::ff::fg::fh::fi::fj::fk::fl::fm::fn::fo::fp::fq::ct::cu::[]),[]⟩ w:=by
 conv=>arg 2;whnf
 go_loopw [78] (λi aj=> ∃j:Nat,j<=(s.ln (y:Int)).W.length/\i= ι j/\RmR w1 aj R s [G,I,br,bM,W,B]/\(∃aK aw,IdL s (s.ln (y:Int)).W j aK aw/\jk aj I kO (Value.int .i64) aw/\jk aj G (Value.int .i64) (Value.int .i64) aK)/\jt (λb=>b=G∨b=I) w aj) (λi _=>(s.ln (y:Int)).W.length-(intOf i).toNat)
 case atStart=>exact⟨0,τ,rfl,ak.o,⟨[],[],IdL.zero _ _,bR.o,bQ.o⟩,jt.refl _ _⟩
 case round=>
  clear ak bR bQ;obtain⟨j,im,rfl,dJ,⟨aK,aw,bz,bD,bC⟩,dC⟩:=hrel;have ak:=κ dJ;have av:=κ dC;have bW:=κ bD;have bV:=κ bC;have ca:Hid (I<wr.heap.size/\G<wr.heap.size):=κ ⟨bD.lt,bC.lt⟩;have ik:(s.ln (y:Int)).W.length<=130:=by have:=Sl aG.o.ok (y:Int);omega
  by_cases hlt:j<(s.ln (y:Int)).W.length
  ·have gb:(j:Int)<((s.ln (y:Int)).W.length:Int):=by omega
   obtain⟨⟨bx,dF⟩,bE,⟨sq,st,gf,gg,bc⟩,-⟩:=OU aG.o (y:Int) j hlt;obtain⟨bA,bB⟩:=IdL.look aG.o (y:Int) bz hlt;have ba:=dU.o j hlt;have aZ:=bz.next hlt 1;obtain⟨iq,ig,fU,-,dM,-⟩:=(ea.o.step av.o).sl ζ;cases fU;obtain⟨dA,dS,c5,rfl,io,fX,dE,v5,bw,bd,bv,dB,-,-⟩:=dM j hlt;generalize (s.ln (y:Int)).W[j]=o at *;obtain⟨ir,body⟩:=o;simp only at bx dF bE bc bA bB ba aZ bd bv dB bw;obtain⟨ac,rfl⟩:=Γ bx;have dG:ac<s.pks.length:=by omega
   obtain⟨a,bt⟩: ∃a,s.pks[ac]? =ϊ a:=⟨_,ϖ dG⟩;have dD:acP s.pks (ac:Int)=a:=by unfold acP;rw[ο,ϑ,bt];rfl
   rw[dD] at bE bc bB ba aZ;obtain⟨bf,be,rfl,-⟩:=id bd;have bj:=κ (λw' (m:ql wr w')=>Ly (ak.o.on m) aG.o.ok τ bt);have aI:=κ (λw' (m:ql wr w')=>Qd _ body w' (bd.keep m) bv τ);rw[bc] at aI;have bT:Hid (wr.rangeAt dA (dS+j* 2) [ι (ac:Int),δ bf body.length be]):=κ (λk v dL=>by rw[dE k (by have:=(Ϛ.1 dL).1;simpa using this),bw];exact dL);have bi:=κ aZ;have bX:Hid (∀w',jt (λb=>b=G∨b=I) wr w'->w'.cell? ⟨W,y* 14+8,ϋ⟩=ϊ (ω (jo y))):=κ (λw' m=>((dY.o.away av.o (λh=>h.elim ad.o.2.1 ad.o.2.2.1) (λh=>h.elim ad.o.2.2.2.1 ad.o.2.2.2.2)).away m (λh=>h.elim ad.o.2.1 ad.o.2.2.1) (λh=>h.elim ad.o.2.2.2.1 ad.o.2.2.2.2)).own y gh);have dT:=κ (λw' (m:ql wr w')=>qav aK (ac:Int) bA (bV.o.more m));have bS:=κ (λw' (m:ql wr w')=>qau aw a.o (bW.o.more m));have dZ:Hid (W<wr.heap.size):=κ (ak.o.lt W η);generalize (qh aw a.o).getD 0=lv at *;have gc: ¬a.num<=lv:=by omega
   obtain⟨⟨ai,o2⟩,num,U,aa,aD,aE,aC,ss,O,Y,N,pl⟩:=a;simp only at bj aI bi bS gc ba;generalize jo y=own at *;clear bz bD bC dJ dC bx dF bE bc bA bB aZ dM fX dE bw bd bv dB dD bt dG gf gg
   go_upto_region 22 with (refine wpList_load_mid rfl 56 (.tmp 80) rfl dA (dS+j* 2) rfl [ι (ac:Int),δ bf body.length be] _ bT.o underlying56 rfl ξ ?_)
   obtain⟨aU,aV⟩:=ν (wr.alloc (.cells #[ι (ac:Int),δ bf body.length be] 56));have aL:Hid (ql wr aU):=κ (by rw[<-aV];exact ql.alloc _ _);have aQ:Hid (aU.heap[wr.heap.size]? =ϊ (.cells #[ι (ac:Int),δ bf body.length be] 56 (0,0))):=κ (by rw[<-aV];exact qj wr _);rw[aV];clear aV bT;generalize wr.heap.size=oq at *;have fw:=β0 aQ.o;have bY:=κ (bj.o aU aL.o)
   go_upto_region 23 with ((go_at_call 15;(go_call bY.o as e aF ⟨os,ap,ar,ao,ke,an,rfl,ps,dN⟩;have ck:=κ ps;have bl:=κ dN;clear ps dN)))
   clear bj bY fw;obtain⟨az,aA⟩:=ν (aF.alloc (.cells #[ι ai,ι o2,ι num,U,υ aa,φ aD,ω aE,ω aC,δ os ss.length ao,O,φ Y,δ ap N.length ke,δ ar pl.length an] 65));have aM:Hid (ql aU az):=κ (by rw[<-aA];exact bl.o.trans W4);have cj:Hid (az.heap[aF.heap.size]? =ϊ (.cells #[ι ai,ι o2,ι num,U,υ aa,φ aD,ω aE,ω aC,δ os ss.length ao,O,φ Y,δ ap N.length ke,δ ar pl.length an] 65 (0,0))):=κ (by rw[<-aA];exact qj aF _);have cl:=κ (ck.o.keep (w':=az) (by rw[<-aA];exact ql.alloc _ _));have bn:=κ (qq aM.o aQ.o);rw[aA];have au:Hid (oq≠G/\aF.heap.size≠G):=κ (by have ih:=ca.o.2;have ii:=bl.o.size;have ij:=qn aQ.o;omega);clear aA bl ck aQ;generalize aF.heap.size=aq at *;have bZ:=κ (aI.o az (aL.o.trans aM.o));have fy:=β1 bn.o
   go_upto_region 24 with ((go_at_call 16;(go_call bZ.o as e bg ⟨iv,iu,vp,rfl,ps,dO,-⟩;obtain⟨⟨bK,bH,rfl,-⟩,⟨bI,bF,rfl,-⟩,⟨bJ,bG,rfl,-⟩⟩:=id ps;have cm:=κ ps;have ce:=κ dO;clear ps dO)))
   clear aI bZ fy;obtain⟨M,aB⟩:=ν (bg.alloc (.cells #[μ U,υ aa,φ sq,ω st,ω own,δ bK ss.length bH,O,φ Y,δ bI N.length bF,δ bJ pl.length bG] 63));have ax:Hid (ql az M):=κ (by rw[<-aB];exact ce.o.trans W4);have aT:Hid (M.heap[bg.heap.size]? =ϊ (.cells #[μ U,υ aa,φ sq,ω st,ω own,δ bK ss.length bH,O,φ Y,δ bI N.length bF,δ bJ pl.length bG] 63 (0,0))):=κ (by rw[<-aB];exact qj bg _);have bq:=κ (cm.o.keep (w':=M) (by rw[<-aB];exact ql.alloc _ _));have al:=κ (cl.o.keep ax.o);have bo:=κ (qq ax.o bn.o);have bp:=κ (qq ax.o cj.o);have bm:=κ (aL.o.trans (aM.o.trans ax.o));rw[aB];clear aB aL aM ce ax cl cm bn cj;generalize bg.heap.size=pq at *
   go_upto_region 25 with (refine wpList_load_mid rfl 63 (.tmp 95) rfl aq 3 rfl [μ U,υ aa,φ aD,ω aE,ω aC,δ os ss.length ao,O,φ Y,δ ap N.length ke,δ ar pl.length an] _ (Oc bp.o 3 10) underlying63 rfl ξ ?_)
   obtain⟨ae,aW⟩:=ν (M.alloc (.cells #[μ U,υ aa,φ aD,ω aE,ω aC,δ os ss.length ao,O,φ Y,δ ap N.length ke,δ ar pl.length an] 63));have aN:Hid (ql M ae):=κ (by rw[<-aW];exact ql.alloc _ _);have am:Hid (ae.heap[M.heap.size]? =ϊ (.cells #[μ U,υ aa,φ aD,ω aE,ω aC,δ os ss.length ao,O,φ Y,δ ap N.length ke,δ ar pl.length an] 63 (0,0))):=κ (by rw[<-aW];exact qj M _);have cn:=κ (qq aN.o aT.o);have aH:Hid (pq<M.heap.size/\W<M.heap.size):=κ ⟨qn aT.o,Nat.lt_trans dZ.o (qn bo.o)⟩;have bU:Hid (∀H,jt (λb=>b=M.heap.size) ae H->ql M H):=κ (λH a=>jt.to_more aN.o a (λk e=>by rw[e];exact ϕ _));have cb:Hid (W<ae.heap.size):=κ (Nat.lt_trans aH.o.2 (qn am.o));rw[aW];clear aW;generalize M.heap.size=rq at *;have ag: ∀x:qz (λb=>b=rq) ae,x.w'.cell? ⟨W,y* 14+8,ϋ⟩=ϊ (ω own):=λx=>x.cell cb.o (by have:=aH.o;omega) (bX.o _ (jt.of_more (bm.o.trans aN.o)))
   have bk:=λ(x:qz (λb=>b=rq) ae)=>x.h.blk cn.o (by have:=aH.o;omega)
   have ah:=λx=>β2 (bk x);have aJ:=λx=>β3 (bk x);clear bk
   have c4:=β4 (qr am.o 1);have c2:=β2 (qr am.o 1);have c3:=β3 (qr am.o 1);have fV:=yw (qr am.o 1);refine QN (λb=>b=rq) ae 22 22 [15,18,21] ?_
   refine qaB ?_
   (refine Ql ?_;intro K d)
   refine⟨qi σ,d _ _ ?_⟩;clear d K
   refine Qs2 ?_
   (refine Ql ?_;intro K d)
   refine⟨qi σ,d _ _ ?_⟩;clear d K
   refine Qs2 ?_
   (refine Ql ?_;intro K d)
   refine⟨qi σ,d _ _ ?_⟩;clear d K ag ah aJ c4 c2 c3 fV;refine qA ?_;obtain⟨H,aX⟩:=ν ((((ae.drewN 1).setCell ⟨rq,4,ϋ⟩ (ω own)).setCell ⟨rq,2,ϋ⟩ (φ sq)).setCell ⟨rq,3,ϋ⟩ (ω st));have bN:Hid (jt (λb=>b=rq) ae H):=κ (by rw[<-aX];exact σ);have ec:Hid (H.heap[rq]? =ϊ (.cells #[μ U,υ aa,φ sq,ω st,ω own,δ os ss.length ao,O,φ Y,δ ap N.length ke,δ ar pl.length an] 63 (0,0))):=κ (by rw[<-aX];exact qp (qp (qp (qr am.o 1) 4 (ω own)) 2 (φ sq)) 3 (ω st));have J:Hid (ql M H):=κ (bU.o _ bN.o);rw[aX];clear aX bN am cn aN aH bU cb bX;have eb:=κ (qq J.o aT.o);have aR:=κ (qq J.o bp.o);have ch:=κ (qq J.o bo.o);have ay:=κ (bm.o.trans J.o);have dV:=κ (λw' (m:ql H w')=>RP ⟨U,aa,sq,st,own,ss,O,Y,N,pl⟩ _ _ _ w' (bq.o.keep (J.o.trans m)));have dW:=κ (λw' (m:ql H w')=>RP ⟨U,aa,sq,st,own,ss,O,Y,N,pl⟩ _ _ _ w' (PkS.mk (al.o.keep (J.o.trans m)).s (al.o.keep (J.o.trans m)).e (al.o.keep (J.o.trans m)).l));have dX:=κ (λw' (m:ql H w')=>Sj ⟨U,aa,sq,st,own,ss,O,Y,N,pl⟩ _ _ _ _ _ _ w' (bq.o.keep (J.o.trans m)) (PkS.mk (al.o.keep (J.o.trans m)).s (al.o.keep (J.o.trans m)).e (al.o.keep (J.o.trans m)).l));clear aT bp bo bq al J bm
   go_upto_region 26 with fail
   have ag: ∀z:qt H,z.w'.cell? ⟨oq,0,ϋ⟩=ϊ (ι (ac:Int)):=λz=>qm (qq z.h ch.o) 0 rfl
   have ah: ∀z:qt H,z.w'.cell? ⟨aq,2,ϋ⟩=ϊ (ι num):=λz=>qm (qq z.h aR.o) 2 rfl
   have aJ: ∀z:qt H,z.w'.cell? ⟨aq,0,ϋ⟩=ϊ (ι ai):=λz=>qm (qq z.h aR.o) 0 rfl
   have cc: ∀z:qt H,(Instr.lookup 52 (.map (ϊ G)) (ι (ac:Int)) ύ).run prog z.w'= .ok (ι 0) z.w':=λz=>dT.o z.w' (ay.o.trans z.h)
   have cd: ∀z:qt H,(Instr.lookup 51 (.map (ϊ I)) (θ #[ι ai,ι o2]) ύ).run prog z.w'= .ok (ι lv) z.w':=λz=>bS.o z.w' (ay.o.trans z.h)
   have il:decide (num<=lv)=ύ:=ϫ τ;refine zC H 41 [(0,ύ),(1,ύ),(2,ύ),(3,ύ),(4,ύ),(5,ύ),(6,ύ),(7,ύ),(9,ύ),(8,ό),(10,ό),(11,ό),(12,ύ),(13,ύ),(14,ύ),(15,ύ),(16,ύ),(17,ύ),(18,ύ),(19,ύ),(20,ύ),(21,ύ),(22,ύ),(23,ύ),(24,ύ),(25,ύ),(26,ύ),(27,ύ),(28,ύ),(29,ύ),(30,ύ),(31,ύ),(32,ύ),(33,ύ),(34,ύ),(35,ύ),(36,ύ),(37,ύ),(38,ύ),(39,ύ),(40,ύ)] ξ ξ ?_
   refine Qq7 ?_
   refine jh rfl rfl (qk ρ) 63 (.tmp 21) rfl pq 0 rfl [μ U,υ aa,φ sq,ω st,ω own,δ bK ss.length bH,O,φ Y,δ bI N.length bF,δ bJ pl.length bG] _ (λw' af=>by obtain⟨z,rfl⟩:=af;exact xy (qq z.h eb.o)) underlying63 rfl ξ ?_;intro K d;go_simp;refine d _ ?_;clear d K;refine jh rfl rfl (qk ρ) 63 (.tmp 23) rfl rq 0 rfl [μ U,υ aa,φ sq,ω st,ω own,δ os ss.length ao,O,φ Y,δ ap N.length ke,δ ar pl.length an] _ (λw' af=>by obtain⟨z,rfl⟩:=af;exact xy (qq z.h ec.o)) underlying63 rfl ξ ?_;intro K d;go_simp;refine d _ ?_;clear d K
   (refine Ql ?_;intro K d)
   go_call dV.o _ ρ as e w29 ⟨rfl,dP⟩;have aO:ql H w29:=(ql.drewN _ 1).trans dP;refine⟨_,rfl,qk aO,d _ _ ?_⟩;clear d K
   (refine Ql ?_;intro K d)
   go_call dW.o _ aO as e w30 ⟨rfl,dQ⟩;have aP:ql H w30:=aO.trans dQ;refine⟨_,rfl,qk aP,d _ _ ?_⟩;clear d K
   (refine Ql ?_;intro K d)
   go_call dX.o _ aP as e w31 ⟨rfl,dR⟩;have ab:ql H w31:=aP.trans dR;refine⟨_,rfl,qk ab,d _ _ ?_⟩;clear d K aO aP dP dQ dR
   iterate 14 (refine qE rfl rfl (qk ab) ?_;intro K d;go_big_quiet_op;go_big_quiet_on)
   refine jh rfl rfl (qk ab) 58 (.tmp 141) rfl aq 0 rfl [ι ai,ι o2] _ (λw' af=>by obtain⟨z,rfl⟩:=af;exact Oc (qq z.h aR.o) 0 2) underlying58 rfl ξ ?_;intro K d;go_simp;refine d _ ?_;clear d K;obtain⟨iw,dK,dH,aY,gd⟩:=((bV.o.more (ay.o.trans ab)).more (ql.drewN w31 1)).update kE underlying52 (ac:Int) 1;obtain⟨ie,bb,dI,bu,ge⟩:=(((bW.o.more (ay.o.trans ab)).more (ql.drewN w31 1)).away aY (λe=>ad.o.1 e.symm)).update Yr underlying51 (ai,o2) num;unfold kO at bb;simp only at bb;have bh:Hid (jt (λb=>b=G∨b=I) wr ie):=κ ((jt.of_more ((ay.o.trans ab).trans (ql.drewN w31 1))).trans ((aY.mono λb e=>ϒ e).trans (bu.mono λb e=>ϔ e)));have bO:=κ (ak.o.mut (bh.o.mono λb fW=>by rcases fW with e | e<;>rw[e]<;>simp));have cg:=κ dI;have cf:=κ (dH.away bu ad.o.1);have bP:=κ aY;have ci:=κ (qq ab ch.o);have aS:=κ (qq ab aR.o);clear dH dI aY bu gd ge ca;by_cases hpb:0<=pb
   ·have fY:decide (0<=pb)=ό:=ϭ hpb;have fZ:=ba hpb;subst fZ
    iterate 14 (refine qE rfl rfl (qk ab) ?_;intro K d;go_big_quiet_op;go_big_quiet_on)
    refine qA ?_;clear ag ah aJ cc cd
    go_upto_region 28 with fail
    have ag:=λ(x:qz (λb=>b=G) w31)=>β0 (x.h.blk ci.o au.o.1)
    have ah:=λ(x:qz (λb=>b=G) w31)=>β2 (x.h.blk aS.o au.o.2)
    refine QN (λb=>b=G) w31 9 10 [8,9] ?_
    refine Qs5 ?_
    refine jh rfl rfl (qi σ) 58 (.tmp 161) rfl aq 0 rfl [ι ai,ι o2] _ (λw' af=>by obtain⟨z,rfl⟩:=af;exact Oc (z.h.blk aS.o au.o.2) 0 2) underlying58 rfl ξ ?_;intro K d;go_simp;refine d _ ?_;clear d K
    refine Qs2 ?_
    (refine Ql ?_;intro K d)
    refine⟨qi (((jt.refl (λb=>b=G) w31).drewN 1).trans bP.o),d _ _ ?_⟩;clear d K
    (refine Qe ?_;intro K d)
    refine d _ _ ?_;clear d K ag ah dK bb;refine qA ?_;go_wp2;go_roundw
    case rel=>exact⟨j+1,τ,by go_num,bO.o,⟨_,_,bi.o,cg.o,cf.o⟩,av.o.trans bh.o⟩
    case measure=>simp[intOf];omega
   ·have fY:decide (0<=pb)=ύ:=ϫ hpb
    iterate 7 (refine qE rfl rfl (qk ab) ?_;intro K d;go_big_quiet_op;go_big_quiet_on)
    iterate 5 (refine Sy rfl rfl (qk ab) ?_;go_simp)
    iterate 2 (refine qE rfl rfl (qk ab) ?_;intro K d;go_big_quiet_op;go_big_quiet_on)
    refine qA ?_;clear ag ah aJ cc cd
    go_upto_region 28 with fail
    have ag:=λ(x:qz (λb=>b=G) w31)=>β0 (x.h.blk ci.o au.o.1)
    have ah:=λ(x:qz (λb=>b=G) w31)=>β2 (x.h.blk aS.o au.o.2)
    refine QN (λb=>b=G) w31 9 10 [8,9] ?_
    refine Qs5 ?_
    refine jh rfl rfl (qi σ) 58 (.tmp 161) rfl aq 0 rfl [ι ai,ι o2] _ (λw' af=>by obtain⟨z,rfl⟩:=af;exact Oc (z.h.blk aS.o au.o.2) 0 2) underlying58 rfl ξ ?_;intro K d;go_simp;refine d _ ?_;clear d K
    refine Qs2 ?_
    (refine Ql ?_;intro K d)
    refine⟨qi (((jt.refl (λb=>b=G) w31).drewN 1).trans bP.o),d _ _ ?_⟩;clear d K
    (refine Qe ?_;intro K d)
    refine d _ _ ?_;clear d K ag ah dK bb;refine qA ?_;go_wp2;go_roundw
    case rel=>exact⟨j+1,τ,by go_num,bO.o,⟨_,_,bi.o,cg.o,cf.o⟩,av.o.trans bh.o⟩
    case measure=>simp[intOf];omega
  ·obtain rfl:j=(s.ln (y:Int)).W.length:=by omega
   have gb: ¬(((s.ln (y:Int)).W.length:Nat):Int)<((s.ln (y:Int)).W.length:Int):=by omega
   go_wp2;exact ga _ _ _ _ _ _ _ _ _ _ _ _ _ _ _ _ _ _ _ _ _ _ _ _ _ _ _ _ _ _ _ _ _ _ _ _ _ _ _ _ _ _ _ _ _ _ _ _ _ _ _ _ _ _ _ _ _ _ _ _ _ _ _ _ _ _ _ _ _ _ _ _ _ _ _ _ _ _ _ _ _ _ _ _ _ _ _ _ _ _ _ _ _ _ _ _ ak.o av.o
def zAW (w:World):ql w ((w.alloc (.map #[] 0)).alloc (.map #[] 0)):=W4.al _
noncomputable def strmSub:Code:=(NW (Tryz.f3.body.getD .skip)).getD 1 .skip
def Si {d ae:Nat} {J p:Int->Int} (ao:Hid (Oa n s jo)) (fG:n<=130)
  (dn:Hid (∀y:Nat,y<6-> ∀k (h:k<(s.ln (y:Int)).W.length),0<=max (p y) (J y)->(acP s.pks (s.ln (y:Int)).W[k].1).o.1=max (p y) (J y)))
  (G:Hid (RmR w1 w R s [d,ae,W,B])) (I:Hid (V7 w W B jo J sf)) (M:Hid (AN 6 46 w d (λk=>p k)))
  (ay c1 c2 c3 c4 bm bn bo az aA dV eg er eC aC eK eL eM eN eO eP aD aE aF aG aH aI aJ aK aL aM aN aO aP aQ aR aS aT aU aV aW aX aY aZ ba bb bc bd be bf bg bh bi bj bk bl eQ eR eS eT eU eV eW eX eY eZ fa fb fc fd fe ff fg fh fi fj fk fl fm fn fo fp fq fr fs ft fu fv fw fx fy fz fA fB fC fD dr ds dt du dv dw dx dy dz dA dB dC dD dE dF dG dH dI dJ dK dL dM dN dO dP dQ dR dS dT dU dW dX dY dZ ea eb ec ed ee ef eh ei ej ek el em en eo ep eq es et eu ev ew ex ey ez eA eB eD eE eF eG eH eI eJ aB:Value) (Q:Exit->Act->World->Prop)
  (fF: ∀(cO fJ fK fL fM cI cJ cK cL cM cN fO fP fQ fR fS fT fU fV fW fX fY fZ ga gb gc gd ge gf gg cP cQ cR cS cT cU cV cW cX cY cZ da db dc dd de df dg dh di dj dk bs bt bu bv bw bx bz bA bB bC bD bE bF bG bH bI bJ bK bL bM bN bO bP bQ bR bS bT bU bV bW bX bY bZ ca cb cc cd ce cf cg ch ci cj ck cl cm cn co cp cq cr ct cu cv cw cx cy cz cA cB cC cD cE cF cG cH fN:Value) (H:World),RmR w1 H R s [d,ae,W,B]->V7 H W B jo J sf->Q (.exit 2) ⟨List.toArray (ay::c1::c2::c3::cO:: γ R::bm:: γ W::bn::bo::az::aA:: γ d::fJ::fK::fL::fM::aC::cI::cJ::cK::cL::cM::cN::aD::aE::aF::aG::aH::aI::aJ::aK::aL::aM::aN::aO::aP::aQ::aR::aS::aT::aU::aV::aW::aX::aY::aZ::ba::bb::bc::bd::be::bf::bg::bh::bi::bj::bk::bl::fO::fP::fQ::fR::fS::fT::fU::fV::fW::fX::fY::fZ::ga::gb::gc::gd::ge::gf::gg::cP::cQ::cR::cS::cT::cU::cV::cW::cX::cY::cZ::da::db::dc::dd::de::df::dg::dh::di::dj::dk::bs::bt::bu::bv::bw::bx::bz::bA::bB::bC::bD::bE::bF::bG::bH::bI::bJ::bK::bL::bM::bN::bO::bP::bQ::bR::bS::bT::bU::bV::bW::bX::bY::bZ::ca::cb::cc::cd::ce::cf::cg::ch::ci::cj::ck::cl::cm::cn::co::cp::cq::cr::ct::cu::cv::cw::cx::cy::cz::cA::cB::cC::cD::cE::cF::cG::cH::fN::aB::[]),[]⟩ H):Code.wp prog strmSub Q ⟨List.toArray (ay::c1::c2::c3::c4:: γ R::bm:: γ W::bn::bo::az::aA:: γ d::dV::eg::er::eC::aC::eK::eL::eM::eN::eO::eP::aD::aE::aF::aG::aH::aI::aJ::aK::aL::aM::aN::aO::aP::aQ::aR::aS::aT::aU::aV::aW::aX::aY::aZ::ba::bb::bc::bd::be::bf::bg::bh::bi::bj::bk::bl:: ι 0::eQ::eR::eS::eT::eU::eV::eW::eX::eY::eZ::fa::fb::fc::fd::fe::ff::fg::fh::fi::fj::fk::fl::fm::fn::fo::fp::fq::fr::fs::ft::fu::fv::fw::fx::fy::fz::fA::fB::fC::fD::dr::ds::dt::du::dv::dw::dx::dy::dz::dA::dB::dC::dD::dE::dF::dG::dH::dI::dJ::dK::dL::dM::dN::dO::dP::dQ::dR::dS::dT::dU::dW::dX::dY::dZ::ea::eb::ec::ed::ee::ef::eh::ei::ej::ek::el::em::en::eo::ep::eq::es::et::eu::ev::ew::ex::ey::ez::eA::eB::eD::eE::eF::eG::eH::eI::eJ::aB::[]),[]⟩ w:=by
 have gi:= @run_makeMap prog
 conv=>arg 2;whnf
 go_loopw [59] (λi H=> ∃y:Nat,y<=6/\i= ι y/\RmR w1 H R s [d,ae,W,B]/\V7 H W B jo J sf/\AN 6 46 H d (λk=>p k)) (λi _=>6-(intOf i).toNat)
 case atStart=>exact⟨0,τ,rfl,G.o,I.o,M.o⟩
 case round=>
  clear G I M;obtain⟨y,gj,rfl,aa,bq,O⟩:=hrel;have G:=κ aa;have I:=κ bq;have M:=κ O;clear aa bq O;by_cases hlt6:y<6
  ·have fI:(y:Int)<6:=by omega
   obtain⟨ah,-⟩:=M.o.get y hlt6;obtain⟨ai,-⟩:=I.o.pub y hlt6;have ap:=κ (dn.o y hlt6)
   go_upto_region 16 with fail
   have dp: ∀x:qt wr,x.w'.cell? ⟨d,y,ϋ⟩=ϊ (ι (p y)):=λx=>by rw[x.h.cells _ _ (Gb ah).2];exact ah
   have dq: ∀x:qt wr,x.w'.cell? ⟨W,84+y,ϋ⟩=ϊ (ι (J y)):=λx=>by rw[x.h.cells _ _ (Gb ai).2];exact ai
   refine Qn wr 11 11 [] ?_
   refine qaE ?_
   refine qA ?_;clear dp dq ah ai;generalize max (p y) (J y)=pb at *
   go_upto_region 19 with fail
   obtain⟨ad,Y⟩:=ν (((wr.drewN 1).alloc (.map #[] 0)).alloc (.map #[] 0));have ab:Hid (ql wr ad):=κ (by rw[<-Y];exact(ql.drewN wr 1).trans (zAW _));have ag:Hid (jk ad wr.heap.size kO (Value.int .i64) ([]:List (Og×Int))):=κ (by rw[<-Y];exact(jk.made (wr.drewN 1) _ _).more W4);have ac:Hid (jk ad (wr.heap.size+1) (Value.int .i64) (Value.int .i64) ([]:List (Int×Int))):=κ (by rw[<-Y];have:=jk.made ((wr.drewN 1).alloc (.map #[] 0)) (Value.int .i64) (Value.int .i64);rw[show ((wr.drewN 1).alloc (.map #[] 0)).heap.size=wr.heap.size+1 by simp[World.drewN]] at this;exact this);have U:Hid (wr.heap.size+1≠wr.heap.size/\W≠wr.heap.size+1/\W≠wr.heap.size/\B≠wr.heap.size+1/\B≠wr.heap.size):=κ (by have aj:=G.o.lt W η;have fE:=G.o.lt B η;omega);have dm:Hid (¬(d=wr.heap.size+1∨d=wr.heap.size)):=κ (by have aj:=G.o.lt d η;omega);have af:Hid (RmR w1 ad R s [wr.heap.size+1,wr.heap.size,d,ae,W,B]):=κ (G.o.adds (Fn:=[wr.heap.size+1,wr.heap.size]) ab.o (λb O=>by have aj:=ac.o.lt;simp at O;omega));have aq:=κ (I.o.more ab.o);have an:=κ (M.o.more ab.o);rw[Y];clear Y G I M ab;generalize wr.heap.size+1=mi at *;generalize wr.heap.size=ml at *;have ar:=κ (MO af.o (y:Int) (by have:=Sl ao.o.ok (y:Int);omega))
   go_upto_region 20 with ((go_at_call 14;(go_call ar.o as e go ⟨⟨gn,rfl,ak⟩,br⟩;obtain⟨gm,gl,gh,rfl,fH,_⟩:=ak.shape;subst fH;have ax:=κ (ak.widen (D':=λb=>b=mi∨b=ml) (λb O=>ϒ (by have aj:=ac.o.lt;have fE:=ag.o.lt;rcases O with e | e<;>omega)));have N:=κ br;clear ak br)))
   have al:=κ (af.o.on N.o);have aw:=κ (aq.o.more N.o);have dl:=κ (an.o.more N.o);have av:=κ (ag.o.more N.o);have au:=κ (ac.o.more N.o);clear af aq an ag ac N ar;refine SU y pb ao fG hlt6 ap al aw av au U ax _ _ _ _ _ _ _ _ _ _ _ _ _ _ _ _ _ _ _ _ _ _ _ _ _ _ _ _ _ _ _ _ _ _ _ _ _ _ _ _ _ _ _ _ _ _ _ _ _ _ _ _ _ _ _ _ _ _ _ _ _ _ _ _ _ _ _ _ _ _ _ _ _ _ _ _ _ _ _ _ _ _ _ _ _ _ _ _ _ _ _ _ _ _ _ _ _ _ _ _ _ _ _ _ _ _ _ _ _ _ _ _ _ _ _ _ _ _ _ _ _ _ _ _ _ _ _ _ _ _ _ _ _ _ _ _ _ _ _ _ _ _ _ _ _ _ _ _ _ _ _ _ _ _ _ _ _ _ _ _ ?_;intro cO cI cJ cK cL cM cN cP cQ cR cS cT cU cV cW cX cY cZ da db dc dd de df dg dh di dj dk bs bt bu bv bw bx bz bA bB bC bD bE bF bG bH bI bJ bK bL bM bN bO bP bQ bR bS bT bU bV bW bX bY bZ ca cb cc cd ce cf cg ch ci cj ck cl cm cn co cp cq cr ct cu cv cw cx cy cz cA cB cC cD cE cF cG cH H aa bp;have G:=κ aa;have am:=κ bp;clear aa bp al av au ax ap;go_wp2;go_roundw
   case rel=>exact⟨y+1,τ,by go_num,G.o.sub η,aw.o.away am.o (λh=>h.elim U.o.2.1 U.o.2.2.1) (λh=>h.elim U.o.2.2.2.1 U.o.2.2.2.2),dl.o.away am.o (λh=>dm.o h)⟩
   case measure=>simp[intOf];omega
  ·obtain rfl:y=6:=by omega
   have fI: ¬((6:Nat):Int)<6:=by omega
   go_wp2;exact fF _ _ _ _ _ _ _ _ _ _ _ _ _ _ _ _ _ _ _ _ _ _ _ _ _ _ _ _ _ _ _ _ _ _ _ _ _ _ _ _ _ _ _ _ _ _ _ _ _ _ _ _ _ _ _ _ _ _ _ _ _ _ _ _ _ _ _ _ _ _ _ _ _ _ _ _ _ _ _ _ _ _ _ _ _ _ _ _ _ _ _ _ _ _ _ _ _ _ _ _ _ _ _ _ _ _ _ _ _ _ _ _ _ _ _ _ _ _ _ _ G.o I.o
section
variable {w0 w w':World} {R:Nat} {s s':RmS} {F F' Fn:List Nat} {n:Nat}
def HV (h:RmR w0 w R s F) (O:qV n s) (Y:n<=1000) (a:A22) (G:Option Addr) (d:Nat) (ac:SlI .u8 w (δ G a.b.length d) a.b) (N:Byt a.b) (U:a.b.length<=400) (ab:U16 a.seq) (aa:U32 a.own):
  Calls prog 12 #[γ R,θ #[ι a.act,ι a.sub,ι a.pub,ι a.layer,δ G a.b.length d,ι a.w.1,ι a.w.2,a.acc,ω a.own,ω a.stamp,φ a.seq,ω a.s0,ω a.s1,ω a.s2]] w λe w'=>
   e= .returned (.tuple #[ι (doR s a).2.1,μ (doR s a).2.2])/\RmR w0 w' R (doR s a).1 F/\qw F w w':=by
 obtain⟨k,rfl,h⟩:=h;exact(RDo h O Y a G d ac N U ab aa).mono λe w' ⟨k',H,I,J,M⟩=>⟨I,⟨k',H,J⟩,M⟩
end
def RZ {d:World} (h:RmR d w R s F):Calls prog 26 #[γ R] w λe w'=> ∃v,e= .returned v/\je 2 RO (λ_=>False) w' w.heap.size 37 v s.workers/\ql w w':=by
 obtain⟨k,rfl,T,vp,G,h⟩:=h;exact O7 h
def cfq (c:CfR) (m:ql (w.alloc (.cells #[ι c.room,ι c.hold,ι c.wait,ι c.space,ι c.retry,ι c.most] 25)) w1):
  ql w w1/\w1.cell? ⟨w.heap.size,0,ϋ⟩=ϊ (ι c.room)/\w1.cell? ⟨w.heap.size,1,ϋ⟩=ϊ (ι c.hold)/\w1.cell? ⟨w.heap.size,2,ϋ⟩=ϊ (ι c.wait)/\w1.cell? ⟨w.heap.size,3,ϋ⟩=ϊ (ι c.space)/\w1.cell? ⟨w.heap.size,4,ϋ⟩=ϊ (ι c.retry)/\w1.cell? ⟨w.heap.size,5,ϋ⟩=ϊ (ι c.most):=by
 have B:=qq m (qj w _);exact⟨W4.trans m,qm B 0 rfl,qm B 1 rfl,qm B 2 rfl,qm B 3 rfl,qm B 4 rfl,qm B 5 rfl⟩
def qax (n:Int) (c:UInt8):Int:=10* n+((c.toNat:Int)-48)
def OP (l:List UInt8):Int:=l.foldl qax 0
def RM (c:UInt8):Bool:=decide (48<=c.toNat)&&decide (c.toNat<=57)
def OX (l:List UInt8) (i:Nat) (h:i<l.length):OP (l.take (i+1))=10* OP (l.take i)+((l[i].toNat:Int)-48):=by
 unfold OP;rw[ϵ h,Φ];rfl
def RR (l:List UInt8) (G: ∀c∈l,RM c=ό): ∀i,i<=l.length->0<=OP (l.take i)/\OP (l.take i)<((10 ^ i:Nat):Int)
 | 0,_=>by simp[OP]
 | i+1,h=>by
  obtain⟨H,I⟩:=RR l G i τ;have d:=G _ (ϛ (show i<l.length by omega));unfold RM at d;rw[B9] at d;have J:=ϟ d.1;have M:=ϟ d.2;rw[OX l i τ,Nat.pow_succ];generalize 10 ^ i=p at *;omega
structure NH (wd:ByteArray) (most n:Int):Prop where
 pos:1<=wd.data.toList.length
 few:wd.data.toList.length<=9
 dig: ∀c∈wd.data.toList,RM c=ό
 val:OP wd.data.toList=n
 le:n<=most
def To (s:ByteArray):s.size=s.data.toList.length:=rfl
def RF {d:ByteArray} {ac n:Int} (h:NH d ac n) (w:World):
  Calls prog 214 #[.string d,ι ac] w λe w'=>e= .returned (ι n)/\ql w w':=by
 obtain⟨aj,ak,J,ab,ay⟩:=h;obtain⟨l,G⟩:=ν (d.data.toList);obtain⟨cap,W1,an,Y,N⟩: ∃cap W1,(convert 9 35 (.string d)).run prog w= .ok (δ (ϊ ⟨w.heap.size,0,ϋ⟩) l.length cap) W1/\(∀i (hi:i<l.length),W1.cell? ⟨w.heap.size,i,ϋ⟩=ϊ (υ (l[i].toNat:Int)))/\ql w W1:=by
  subst G;refine⟨_,_,run_bytes_of_string w 9 35 5 d underlying9 underlying35 underlying5,λi hi=> ?_,(ql.drewN w 1).al _⟩;have e:=World.cell?_alloc_mark w.drew (bytesRow d (grownCap w d.size 0 5)) 5 ((bytesRow d (grownCap w d.size 0 5)).size,(bytesRow d (grownCap w d.size 0 5)).size+1) i;refine e.trans ?_;rw[bytesRow_at d _ i (by simpa using hi)];simp
 have ae:=κ Y
 have af:Hid (∀i (hi:i<l.length),(48:Int)<=l[i].toNat/\(l[i].toNat:Int)<=57):=κ (λi hi=>by
  subst G;have H:=J _ (ϛ hi);unfold RM at H;rw[B9] at H;have aw:=ϟ H.1;have ax:=ϟ H.2
  omega)
 have ad:=κ (RR l (by rw[<-G];exact J));have ai:=κ (OX l);have ah:Hid (OP (l.take l.length)=n):=κ (by rw[ϱ,<-G];exact ab);have az:(d.size:Int)=(l.length:Int):=by rw[To,G]
 rw[G] at aj ak;have aA: ¬(l.length:Int)<1:=by omega
 have aB: ¬(9:Int)<(l.length:Int):=by omega
 have ag:=κ N;clear Y J ab G N
 go_enter func214,ntmps214
 go_wp2
 go_loopw [5,20] (λu M wr=> ∃i:Nat,i<=l.length/\M= ι i/\u= ι (OP (l.take i))/\ql W1 wr) (λ_ M _=>l.length-(intOf M).toNat)
 case atStart=>exact⟨0,τ,rfl,rfl,ql.refl _⟩
 case round=>
  obtain⟨i,hi,rfl,rfl,aa⟩:=hrel;have I:=κ aa;clear aa an;by_cases hlt:i<l.length
  ·have ao:(i:Int)<(l.length:Int):=by omega
   have ar:wr.cell? ⟨w.heap.size,i,ϋ⟩=ϊ (υ (l[i].toNat:Int)):=by
    have e:=ae.o i hlt;rw[I.o.cells _ _ (Gb e).2];exact e
   obtain⟨au,av⟩:=af.o i hlt;obtain⟨aq,O⟩:=ad.o i τ;have U:10 ^ i<=10 ^ 9:=D2 ζ τ;have am:=ai.o i hlt;generalize OP (l.take i)=q at *;generalize ((l[i].toNat:Nat):Int)=c at *;have aC: ¬c<48:=by omega
   have aD: ¬57<c:=by omega
   have aF:q<=1000000000:=by
    generalize 10 ^ i=p at O U;omega
   have aE:IntKind.u8.wrap (c-48)=c-48:=IntWalk.u8_in _ τ;clear O U;go_wp2;go_roundw
   case rel=>exact⟨i+1,τ,by go_num,by rw[am],I.o⟩
   case measure=>simp[intOf];omega
  ·obtain rfl:i=l.length:=by omega
   have ao: ¬(l.length:Int)<(l.length:Int):=by omega
   have ap:=ah.o;rw[ap];go_wp2;go_ret;exact⟨rfl,ag.o.trans I.o⟩
def RTx:qL ByteArray:=λ_ cs s=>cs=[.string s]
def Tm:QQ RTx:=λ_ _ _ _ _ h=>h
def RA (c:UInt8):Int:=if c=115 then 65535 else if c=116 then 20 else 999999999
def SlP.strs {cap:Nat} {L:List ByteArray} (h:SlP 1 RTx w (δ H n cap) L) (m:ql w w') (i:Nat) (hi:i<L.length): ∃b d,H=ϊ ⟨b,d,ϋ⟩/\w'.cell? ⟨b,d+i,ϋ⟩=ϊ (.string L[i]):=by
 obtain⟨Y,O,e,_,I,_⟩:=h;injection e with e1 e2 e3
 subst e1;obtain⟨b,d,cs,rfl,J,U,M,N⟩:=I i hi;refine⟨b,d,rfl, ?_⟩;have G:=M 0 τ;rw[W0,G7] at G;rw[m.cells _ _ J,G,show cs=[.string L[i]] from N];rfl
structure Ol (fm:ByteArray) (ws:List ByteArray) (ns:List Int):Prop where
 len:ws.length=fm.data.toList.length
 few:ws.length<=100
 pos:0<ws.length
 same:ns.length=ws.length
 ok: ∀i (h:i<ws.length) (h1:i<fm.data.toList.length) (h2:i<ns.length),NH ws[i] (RA fm.data.toList[i]) ns[i]
def Rs {H:ByteArray} {d:List ByteArray} {G:List Int} (h:Ol H d G) (aB:Option Addr) (cap:Nat) (w:World) (aD:SlP 1 RTx w (δ aB d.length cap) d):
  Calls prog 160 #[.string H,δ aB d.length cap] w λe w'=>(∃g cap,e= .returned (δ (ϊ ⟨g,0,ϋ⟩) G.length cap)/\w.heap.size<=g/\g<w'.heap.size/\ ∀i y,G[i]? =ϊ y->w'.cell? ⟨g,i,ϋ⟩=ϊ (ι y))/\ql w w':=by
 obtain⟨aT,hi,aQ,aR,aS⟩:=info_parts (P:=prog) (e:=3) (z:= ι 0) (size:=1) (bytes:=8) ξ;obtain⟨I,bb,bd,ap,aq⟩:=h;have aI:=κ aD;have aK:=κ aq;have be:(H.size:Int)=(d.length:Int):=by rw[I];rfl
 have aE:Hid (∀i (hi:i<d.length) (I:i<H.data.toList.length) (wr:World),(Instr.index 9 (.string H) (ι (i:Int))).run prog wr= .ok (υ (H.data.toList[i].toNat:Int)) wr):=κ (λi hi I wr=>by
  rw[run_index_string wr 9 H .i64 (i:Int) underlying9,dif_pos ⟨τ,τ⟩]
  rfl)
 have aF:=κ I;have J:=κ ap;clear aq aD I ap
 go_enter func160,ntmps160
 go_wp2
 go_loopw [5,17] (λu ag wr=> ∃i:Nat,i<=d.length/\ag= ι i/\(∃aC aA am,u= δ aC aA am)/\wr.ownsRow w.heap.size 3 1 u (G.take i).length ((G.take i).map (Value.int .i64))/\ql w wr) (λ_ ag _=>d.length-(intOf ag).toNat)
 case atStart=>exact⟨0,τ,rfl,⟨_,_,_,rfl⟩,World.ownsRow_nil _ _ _ _,ql.refl _⟩
 case round=>
  obtain⟨i,bc,rfl,⟨aC,aA,am,rfl⟩,ay,ax⟩:=hrel;have aj:=κ ay;have U:=κ ax;clear ay ax;by_cases hlt:i<d.length
  ·have aN:(i:Int)<(d.length:Int):=by omega
   have av:i<H.data.toList.length:=by have:=aF.o;omega
   have aw:i<G.length:=by have:=J.o;omega
   obtain⟨b,bi,rfl,aW⟩:=aI.o.strs U.o i hlt;have az:=aE.o i hlt av;have Y:=κ (RF (aK.o i hlt av aw));have aJ:Hid (G.take (i+1)=G.take i++[G[i]]):=κ (ϵ aw);have bf:(G.take i).length<=100:=by rw[Ϡ];omega
   obtain⟨c,O⟩:=ν (H.data.toList[i]);rw[O] at az Y;obtain⟨m,ad⟩:=ν (RA c);rw[ad] at Y;generalize G[i]=y at *;generalize G.take i=fl at *;generalize d[i]=wd at *;clear O;obtain⟨q,af⟩: ∃q:Int,((c.toNat:Nat):Int)=q:=⟨_,rfl⟩;rw[af] at az;have an:c=115↔((c.toNat:Nat):Int)=115:=⟨λh=>by rw[h];rfl,λh=>UInt8.toNat_inj.1 (by show c.toNat=115;omega)⟩;have M:c=116↔((c.toNat:Nat):Int)=116:=⟨λh=>by rw[h];rfl,λh=>UInt8.toNat_inj.1 (by show c.toNat=116;omega)⟩;have aO:(q=115/\m=65535)∨(¬q=115/\q=116/\m=20)∨(¬q=115/\ ¬q=116/\m=999999999):=by
    rw[<-ad,<-af];unfold RA;simp only[an,M];by_cases q1:((c.toNat:Nat):Int)=115
    ·simp[q1]
    ·by_cases q2:((c.toNat:Nat):Int)=116<;>simp[q1,q2]
   clear ad af an M;rcases aO with ⟨rfl,rfl⟩ | ⟨aU,rfl,rfl⟩ | ⟨aU,n2,rfl⟩
   all_goals
    go_wp2_with (first | (go_at_call 214;(go_call Y.o _ as e w5 ⟨rfl,ah⟩;have aa:=κ (U.o.trans ah);have ak:=κ (jE aj.o ah);clear ah)) | (at_builtin;(refine qU _ rfl (.tmp 29) (.tmp 33) 107 rfl w.heap.size 3 aT (ι 0) 8 underlying107 hi aQ aR aS rfl _ .i64 fl rfl (ak.o.alloc _) _ [y] rfl (SlI.lit .i64 w5 [y] 3 _ 1 _ η rfl η η) (by simp;omega) ζ (by have:=aa.o.size;simp;omega) ?_;intro bk w6 ai ao _;have aH:=κ ai;have aG:Hid (ql w w6):=κ (Below.grown (aa.o.al _) ao (aa.o.al _).size (λb ac=>jS ak.o ac));obtain⟨bg,aX,N⟩:=xl ai;rw[show (fl++[y]).length=fl.length+1 from by simp] at N;subst N;clear ai ao)))
    go_roundw
    case rel=>exact⟨i+1,τ,by go_num,⟨_,_,_,rfl⟩,by rw[aJ.o];exact aH.o,aG.o⟩
    case measure=>simp[intOf];omega
  ·obtain rfl:i=d.length:=by omega
   have aN: ¬(d.length:Int)<(d.length:Int):=by omega
   have aL:Hid (G.take d.length=G):=κ (by rw[<-J.o,ϱ]);go_wp2;go_ret;have ae:=aj.o;rw[aL.o] at ae;obtain⟨bh,aY,e,_,O,_⟩:=SlI.of_owns ae (by have:=J.o;omega);rcases id ae.2 with ⟨_,ba⟩ | ⟨g,aZ,cur,M,ac,aM,_⟩
   ·have:=J.o;omega
   ·rw[M] at e ⊢;injection e with e3 e4 e5
    subst e3 e5;refine⟨⟨g,⟨_,rfl⟩,ac,lt_of_block aM,λi y aP=> ?_⟩,U.o⟩;obtain⟨au,N⟩:=Ϛ.1 aP;obtain⟨aV,bj,ab,_,ar⟩:=O i au;injection ab with ab
    injection ab with e8 e9 _
    subst e8 e9;rw[D8] at ar;rw[ar,<-N];simp[au]
end Go.Proofs.YtlmllmonabafjaaGreatDoor
